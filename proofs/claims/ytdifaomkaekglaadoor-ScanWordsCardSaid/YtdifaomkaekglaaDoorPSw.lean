/- The plain half of ScanWords. -/
import Derived.Test.YtdifaomkaekglaaDoorHS6
import Derived.Test.YtdifaomkaekglaaDoorPSt
set_option linter.unusedVariables false
set_option linter.unusedSimpArgs false
namespace Go.Proofs.YtdifaomkaekglaaDoor.Pure
open Go.RowKit Go.Proofs.YtdifaomkaekglaaDoor.HS Go.Proofs.YtdifaomkaekglaaDoorW.PrintWords Go.Proofs.YtdifaomkaekglaaDoorW.PrintLast Go.Proofs.Scn
/-- a word that the law takes -/
def goodW (l : List UInt8) : Prop := ∀ c ∈ l, isB c = false ∧ c ≠ 44
theorem good_trim {l : List UInt8} (h : goodW l) : trimL l = l := trim_tidy ⟨fun c hc => (h c (List.mem_of_mem_head? hc)).1, fun c hc => (h c (List.mem_of_getLast? hc)).1⟩
theorem blank_of {c : UInt8} (h1 : ¬ (c.toNat : Int) = 32) (h2 : ¬ (c.toNat : Int) = 9) (h3 : ¬ (c.toNat : Int) = 10) (h4 : ¬ (c.toNat : Int) = 13) : isB c = false := by
  have a1 : c ≠ 32 := fun e => h1 (by rw [e]; rfl)
  have a2 : c ≠ 9 := fun e => h2 (by rw [e]; rfl)
  have a3 : c ≠ 10 := fun e => h3 (by rw [e]; rfl)
  have a4 : c ≠ 13 := fun e => h4 (by rw [e]; rfl)
  show ([32, 9, 10, 13] : List UInt8).contains c = false
  simp [a1, a2, a3, a4]
structure InvW (ws : List ByteArray) (i : Nat) (x5 x6 : ByteArray) : Prop where
  words : ∀ t, wg [] (x5.data.toList ++ t) = (ws.take i).map (·.data.toList) ++ wg [] t
  none : i = 0 → x6.data.toList = []
  split : 0 < i → (spl 44 x6.data.toList).map trimL = (ws.take i).map (·.data.toList)
  s5 : x5.size ≤ 25 * i
  s6 : x6.size ≤ 23 * i
theorem back (ws : List ByteArray) : (ws.map (·.data.toList)).map ba = ws := by
  rw [List.map_map]
  conv => rhs; rw [← List.map_id ws]
  apply List.map_congr_left
  intro s _
  exact data_ba s
theorem blanks_data : ∀ a : Nat, a ≤ 3 → ((⟨#[32, 9, 10, 13]⟩ : ByteArray).extract a (⟨#[32, 9, 10, 13]⟩ : ByteArray).size).data.toList = bl.drop a := fun a _ => ext_to _ a
theorem blanks_blank (a : Nat) : ∀ c ∈ bl.drop a, isB c = true := fun c hc => List.contains_iff_mem.2 (List.mem_of_mem_drop hc)
theorem invW_next {ws : List ByteArray} {i : Nat} {x5 x6 : ByteArray} (h : InvW ws i x5 x6) (hi : i < ws.length) (hg : goodW ws[i].data.toList) (hn : ws[i].data.toList ≠ []) (hs : ws[i].size ≤ 20) (B : ByteArray) (hB : ∀ c ∈ B.data.toList, isB c = true) (hBs : B.size ≤ 4) (y : ByteArray)
    (hy : y = if (i : Int) > 0 then (x6 ++ (⟨#[32, 44, 32]⟩ : ByteArray)) ++ ws[i] else x6 ++ ws[i]) : InvW ws (i + 1) (x5 ++ ((B ++ ws[i]) ++ (⟨#[32]⟩ : ByteArray))) y := by
  have ht : (ws.take (i + 1)).map (·.data.toList) = (ws.take i).map (·.data.toList) ++ [ws[i].data.toList] := by
    rw [List.take_succ_eq_append_getElem hi, List.map_append]
    rfl
  have l1 : (⟨#[32]⟩ : ByteArray).size = 1 := rfl
  have l3 : (⟨#[32, 44, 32]⟩ : ByteArray).size = 3 := rfl
  constructor
  · intro t
    have e : (x5 ++ ((B ++ ws[i]) ++ (⟨#[32]⟩ : ByteArray))).data.toList ++ t = x5.data.toList ++ (B.data.toList ++ (ws[i].data.toList ++ 32 :: t)) := by
      simp only [ByteArray.data_append, Array.toList_append, List.append_assoc]
      rfl
    rw [e, h.words, wg_blanks hB, wg_word (fun c hc => (hg c hc).1), List.nil_append, wg_shut rfl hn, ht]
    simp
  · intro e; omega
  · intro _
    by_cases h0 : i = 0
    · subst h0
      rw [if_neg (by omega)] at hy
      have e : y.data.toList = ws[0].data.toList := by rw [hy, ByteArray.data_append, Array.toList_append, h.none rfl, List.nil_append]
      rw [e, spl_none (fun hm => (hg _ hm).2 rfl), ht]
      simp [good_trim hg]
    · rw [if_pos (by omega)] at hy
      have e : y.data.toList = x6.data.toList ++ [32] ++ 44 :: (32 :: ws[i].data.toList) := by
        rw [hy]
        simp only [ByteArray.data_append, Array.toList_append, List.append_assoc]
        rfl
      rw [e, spl_sep (by decide) _ _ (fun hm => (hg _ hm).2 rfl) (good_trim hg), h.split (by omega), ht]
  · have := h.s5
    simp only [ByteArray.size_append]
    omega
  · have := h.s6
    rw [hy]
    split <;> simp only [ByteArray.size_append] <;> omega
theorem words_end (ws : List ByteArray) (hw : ws.length ≤ 50) (x5 x6 : ByteArray) (h : InvW ws ws.length x5 x6) (a : Int) :
    Ev (fun k => scrimlaw07_ScanWords.l0 k ws a x5 x6 ws (ws.length : Int) (ws.length : Int)) true := by
  have h5 := h.s5
  have h6 := h.s6
  have w1 : wordsV x5 = ws := by
    have e := h.words []
    rw [List.append_nil, List.take_length] at e
    rw [wordsV_eq, e]
    show (_ ++ []).map ba = _
    rw [List.append_nil, back]
  have j4 : Ev (fun k => scrimlaw07_ScanWords.j4 k ws x5 false) true := by
    refine Ev.step (f := fun k => (scrimref07_Same.f k ws ws).bind fun t235 => some t235) (fun k => ?_) (Ev.bind (rSame ws (by omega)) (Ev.now _))
    rw [scrimlaw07_ScanWords.j4, if_neg (by decide), scan_Words.f, if_pos (by omega), w1, Option.bind_some]
  by_cases h0 : 0 < ws.length
  · have w2 : splitV x6 44 = ws := by
      have e := h.split h0
      rw [List.take_length] at e
      have : (spl 44 x6.data.toList).map (fun l => ba (trimL l)) = ((spl 44 x6.data.toList).map trimL).map ba := by rw [List.map_map]; rfl
      rw [splitV_eq, this, e, back]
    refine Ev.step (f := fun k => (scrimref07_Same.f k ws ws).bind fun t231 => scrimlaw07_ScanWords.j4 k ws x5 (!t231)) (fun k => ?_) (Ev.bind (rSame ws (by omega)) j4)
    rw [scrimlaw07_ScanWords.l0, if_neg (by omega), if_pos (by omega), scan_Split.f, if_pos (by omega), show UInt8.ofNat (44 : Int).toNat = 44 by decide, w2, Option.bind_some]
  · refine Ev.step (f := fun k => scrimlaw07_ScanWords.j4 k ws x5 false) (fun k => ?_) j4
    rw [scrimlaw07_ScanWords.l0, if_neg (by omega), if_neg (by omega)]
theorem words_l (ws : List ByteArray) (hw : ws.length ≤ 50) (a : Nat) (ha : a ≤ 3) : ∀ (d i : Nat) (x5 x6 : ByteArray), i + d = ws.length → InvW ws i x5 x6 →
    Ev (fun k => scrimlaw07_ScanWords.l0 k ws (a : Int) x5 x6 ws (ws.length : Int) (i : Int)) true
  | 0, i, x5, x6, h, hI => by
    obtain rfl : i = ws.length := by omega
    exact words_end ws hw x5 x6 hI a
  | d + 1, i, x5, x6, h, hI => by
    have hi : i < ws.length := by omega
    have hrd : rdOf ByteArray.empty ws (i : Int) = ws[i] := by
      unfold rdOf
      rw [Int.toNat_natCast, List.getD, List.getElem?_eq_getElem hi]
      rfl
    by_cases h0 : ws[i].data.toList = []
    · refine Ev.step (fun k => by rw [scrimlaw07_ScanWords.l0, if_pos (by omega), if_pos (by omega), if_pos (by omega), hrd, toL, if_pos h0]) ?_
      exact Ev.step (f := fun k => some true) (fun k => by rw [scrimlaw07_ScanWords.j2, if_pos rfl]) (Ev.now _)
    · refine Ev.step (f := fun k => scrimlaw07_ScanWords.j2 k ws (a : Int) x5 x6 (i : Int) ws[i] ws (ws.length : Int) (i : Int) (decide (((ws[i]).size : Int) > 20))) (fun k => by rw [scrimlaw07_ScanWords.l0, if_pos (by omega), if_pos (by omega), if_pos (by omega), hrd, toL, if_neg h0]) ?_
      by_cases h20 : ((ws[i]).size : Int) > 20
      · rw [decide_eq_true h20]
        exact Ev.step (f := fun k => some true) (fun k => by rw [scrimlaw07_ScanWords.j2, if_pos rfl]) (Ev.now _)
      · rw [decide_eq_false h20]
        have inner : ∀ (l : List UInt8) (j : Nat), ws[i].data.toList.drop j = l → j ≤ ws[i].size → goodW (ws[i].data.toList.take j) →
            Ev (fun k => scrimlaw07_ScanWords.l1 k ws (a : Int) x5 x6 (i : Int) ws[i] (j : Int) ws (ws.length : Int) (i : Int)) true := by
          intro l
          induction l with
          | nil =>
            intro j hj hjs hg
            have hje := drop_end hj
            rw [List.take_of_length_le (by rw [← sz]; omega)] at hg
            have hBd := blanks_data a ha
            have hBs : ((⟨#[32, 9, 10, 13]⟩ : ByteArray).extract a (⟨#[32, 9, 10, 13]⟩ : ByteArray).size).size ≤ 4 := by
              rw [sz, hBd, List.length_drop]
              show 4 - a ≤ 4
              omega
            generalize hBv : (⟨#[32, 9, 10, 13]⟩ : ByteArray).extract a (⟨#[32, 9, 10, 13]⟩ : ByteArray).size = B at hBd hBs
            have hBb : ∀ c ∈ B.data.toList, isB c = true := by rw [hBd]; exact blanks_blank a
            have l1 : (⟨#[32]⟩ : ByteArray).size = 1 := rfl
            have l3 : (⟨#[32, 44, 32]⟩ : ByteArray).size = 3 := rfl
            have s5 := hI.s5
            have s6 := hI.s6
            have nx := invW_next hI hi hg h0 (by omega) B hBb hBs _ rfl
            have ih := words_l ws hw a ha d (i + 1) _ _ (by omega) nx
            refine Ev.step (fun k => ?_) ih
            rw [scrimlaw07_ScanWords.l1, if_neg (by omega), if_pos (by omega), if_pos (by omega), Int.toNat_natCast, hBv, if_pos (by omega), if_pos (by simp only [ByteArray.size_append]; omega), if_pos (by simp only [ByteArray.size_append]; omega), w64s i (by omega)]
            by_cases hi0 : (i : Int) > 0
            · rw [if_pos hi0, if_pos hi0, if_pos (by omega), if_pos (by simp only [ByteArray.size_append]; omega)]
            · rw [if_neg hi0, if_neg hi0, if_pos (by omega)]
          | cons c t ih =>
            intro j hj hjs hg
            obtain ⟨g1, g2, g3⟩ := drop_at hj
            have tr : Ev (fun _ : Nat => some true) true := Ev.now _
            by_cases c1 : (c.toNat : Int) = 32
            · exact Ev.step (f := fun k => some true) (fun k => by rw [scrimlaw07_ScanWords.l1, if_pos (by omega), if_pos (by omega), g2, if_pos c1]) tr
            by_cases c2 : (c.toNat : Int) = 9
            · exact Ev.step (f := fun k => some true) (fun k => by rw [scrimlaw07_ScanWords.l1, if_pos (by omega), if_pos (by omega), g2, if_neg c1, if_pos c2]) tr
            by_cases c3 : (c.toNat : Int) = 10
            · exact Ev.step (f := fun k => some true) (fun k => by rw [scrimlaw07_ScanWords.l1, if_pos (by omega), if_pos (by omega), g2, if_neg c1, if_neg c2, if_pos c3]) tr
            by_cases c4 : (c.toNat : Int) = 13
            · exact Ev.step (f := fun k => some true) (fun k => by rw [scrimlaw07_ScanWords.l1, if_pos (by omega), if_pos (by omega), g2, if_neg c1, if_neg c2, if_neg c3, if_pos c4]) tr
            by_cases c5 : (c.toNat : Int) = 44
            · exact Ev.step (f := fun k => some true) (fun k => by rw [scrimlaw07_ScanWords.l1, if_pos (by omega), if_pos (by omega), g2, if_neg c1, if_neg c2, if_neg c3, if_neg c4, if_pos c5]) tr
            refine Ev.step (f := fun k => scrimlaw07_ScanWords.l1 k ws (a : Int) x5 x6 (i : Int) ws[i] ((j + 1 : Nat) : Int) ws (ws.length : Int) (i : Int)) (fun k => by rw [scrimlaw07_ScanWords.l1, if_pos (by omega), if_pos (by omega), g2, if_neg c1, if_neg c2, if_neg c3, if_neg c4, if_neg c5, w64s j (by omega)]) (ih (j + 1) g3 (by omega) ?_)
            have e := take_next (l := ws[i].data.toList) (a := 0) hj (Nat.zero_le _)
            simp only [List.drop_zero, Nat.sub_zero] at e
            rw [e]
            intro x hx
            rcases List.mem_append.1 hx with hx | hx
            · exact hg x hx
            · rw [List.mem_singleton] at hx
              subst hx
              exact ⟨blank_of c1 c2 c3 c4, fun e => c5 (by rw [e]; rfl)⟩
        refine Ev.step (fun k => by rw [scrimlaw07_ScanWords.j2, if_neg (by decide)]; rfl) (inner _ 0 rfl (Nat.zero_le _) (by intro c hc; simp at hc))
theorem ScanWords (ws : List ByteArray) (a1 : Int) : ∃ k, scrimlaw07_ScanWords.f k ws a1 = some true := by
  refine Ev.rounds (g := fun k => scrimlaw07_ScanWords.f k ws a1) ?_
  unfold scrimlaw07_ScanWords.f
  refine Ev.bind awake ?_
  simp only [if_true]
  have tr : Ev (fun k => scrimlaw07_ScanWords.j0 k ws a1 true) true := Ev.step (f := fun k => some true) (fun k => by rw [scrimlaw07_ScanWords.j0, if_pos rfl]) (Ev.now _)
  by_cases h1 : (ws.length : Int) > 50
  · simp only [if_pos h1]; exact tr
  simp only [if_neg h1]
  by_cases h2 : a1 < 0
  · simp only [if_pos h2]; exact tr
  simp only [if_neg h2]
  by_cases h3 : a1 > 3
  · rw [decide_eq_true h3]; exact tr
  rw [decide_eq_false h3]
  obtain ⟨a, rfl⟩ : ∃ a : Nat, a1 = (a : Int) := ⟨a1.toNat, by omega⟩
  refine Ev.step (f := fun k => scrimlaw07_ScanWords.l0 k ws (a : Int) (⟨#[]⟩ : ByteArray) (⟨#[]⟩ : ByteArray) ws (ws.length : Int) ((0 : Nat) : Int)) (fun k => by rw [scrimlaw07_ScanWords.j0, if_neg (by decide)]; rfl) ?_
  exact words_l ws (by omega) a (by omega) ws.length 0 _ _ (by omega) ⟨fun t => by simp, fun _ => rfl, fun h => by omega, Nat.zero_le _, Nat.zero_le _⟩
end Go.Proofs.YtdifaomkaekglaaDoor.Pure
