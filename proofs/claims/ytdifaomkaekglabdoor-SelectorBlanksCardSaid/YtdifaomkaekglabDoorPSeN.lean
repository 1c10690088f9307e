/- The plain half of SelectorBlanks. -/
import Derived.Test.YtdifaomkaekglabDoorPSeD
import Derived.Test.YtdifaomkaekglabDoorHS8
set_option linter.unusedVariables false
set_option linter.unusedSimpArgs false
namespace Go.Proofs.YtdifaomkaekglabDoor.Pure
open Go.RowKit Go.Proofs.YtdifaomkaekglabDoor.HS Go.Proofs.YtdifaomkaekglabDoorW.PrintWords Go.Proofs.YtdifaomkaekglabDoorW.PrintLast Go.Proofs.YtdifaomkaekglabDoorW.PrintMore Go.Proofs.Scn Go.Proofs.Tok
def up (c : UInt8) : UInt8 := if 97 ≤ c.toNat ∧ c.toNat ≤ 122 then UInt8.ofNat (c.toNat - 32) else c
def bc (c : UInt8) : List UInt8 := if isB c = true ∨ c = 62 then [32, c, 9] else [up c]
theorem bc_chk (c : UInt8) : (isB c = true → lowB c = c ∧ c ≠ 62) ∧ (isB c = false → c ≠ 62 → lowB (up c) = lowB c ∧ isB (lowB c) = false ∧ lowB c ≠ 62 ∧ lowB (up c) ≠ 62) := by
  have := all256 (fun c => (!isB c || (lowB c == c && c != 62)) && (isB c || (c == 62 || (lowB (up c) == lowB c && (!isB (lowB c) && (lowB c != 62 && lowB (up c) != 62)))))) (by kernel_rfl) c
  rw [Bool.and_eq_true] at this
  obtain ⟨h1, h2⟩ := this
  constructor
  · intro h
    rw [h] at h1
    simp only [Bool.not_true, Bool.false_or, Bool.and_eq_true, beq_iff_eq, bne_iff_ne] at h1
    exact h1
  · intro h h6
    have h7 : (c == 62) = false := by rw [beq_eq_false_iff_ne]; exact h6
    rw [h, h7] at h2
    simp only [Bool.false_or, Bool.and_eq_true, beq_iff_eq, Bool.not_eq_true', bne_iff_ne] at h2
    exact h2
theorem gt_one {c : UInt8} (h : lowB c ≠ 62) : G [c] = [lowB c] := by
  unfold G
  rw [List.map_cons, List.map_nil, gt_go h]
  rfl
theorem G_cons (c : UInt8) (t : List UInt8) : G (c :: t) = G [c] ++ G t := G_app [c] t
theorem wg_same_blank {a b : List UInt8} {c d : UInt8} (hc : isB c = true) (hd : isB d = true) (h : wg [] a = wg [] b) (cur : List UInt8) : wg cur (c :: a) = wg cur (d :: b) := by
  by_cases e : cur = []
  · subst e
    rw [wg_blank hc, wg_blank hd, h]
  · rw [wg_shut hc e, wg_shut hd e, h]
theorem blanks_words : ∀ (s cur : List UInt8), wg cur (G (s.flatMap bc) ++ [32]) = wg cur (G s)
  | [], cur => by
    show wg cur [32] = wg cur []
    by_cases e : cur = []
    · subst e; rfl
    · rw [wg_shut (by decide) e, wg, if_pos rfl, wg, if_neg e]
  | c :: s, cur => by
    have ih := blanks_words s
    rw [List.flatMap_cons, G_app, G_cons c s]
    obtain ⟨k1, k2⟩ := bc_chk c
    cases hb : isB c with
    | true =>
      obtain ⟨e1, e2⟩ := k1 hb
      have e3 : bc c = [32, c, 9] := by unfold bc; rw [if_pos (Or.inl hb)]
      have e4 : G [32, c, 9] = [32, c, 9] := by
        rw [G_cons, G_cons c, gt_one (by decide), gt_one (by rw [e1]; exact e2), gt_one (by decide), e1]
        rfl
      rw [e3, e4, gt_one (by rw [e1]; exact e2), e1]
      show wg cur (32 :: (c :: (9 :: (G (s.flatMap bc) ++ [32])))) = wg cur (c :: G s)
      refine wg_same_blank (by decide) hb ?_ cur
      rw [wg_blank hb, wg_blank (by decide)]
      exact ih []
    | false =>
      by_cases h6 : c = 62
      · subst h6
        have e3 : bc 62 = [32, 62, 9] := by decide
        rw [e3]
        show wg cur (32 :: (32 :: 62 :: 32 :: 9 :: (G (s.flatMap bc) ++ [32]))) = wg cur (32 :: (62 :: 32 :: G s))
        refine wg_same_blank (by decide) (by decide) ?_ cur
        have a : ∀ X, wg [] (32 :: 62 :: 32 :: 9 :: X) = [62] :: wg [] X := fun X => by rw [wg_blank (c := 32) rfl, wg_go (c := 62) rfl, List.nil_append, wg_shut (c := 32) rfl (by simp), wg_blank (c := 9) rfl]
        have b : ∀ Y, wg [] (62 :: 32 :: Y) = [62] :: wg [] Y := fun Y => by rw [wg_go (c := 62) rfl, List.nil_append, wg_shut (c := 32) rfl (by simp)]
        rw [a, b, ih []]
      · obtain ⟨e1, e2, e5, e6⟩ := k2 hb h6
        have e3 : bc c = [up c] := by unfold bc; rw [if_neg (by rw [hb]; simp [h6])]
        rw [e3, gt_one e6, gt_one e5, e1]
        show wg cur (lowB c :: (G (s.flatMap bc) ++ [32])) = wg cur (lowB c :: G s)
        rw [wg_go e2, wg_go e2]
        exact ih _
theorem blanks_read (s t : ByteArray) (h : t.data.toList = [10, 32] ++ s.data.toList.flatMap bc) : readV (t ++ ⟨#[32]⟩) = readV s := by
  unfold readV
  have e : wordsR (t ++ ⟨#[32]⟩).data.toList = wordsR s.data.toList := by
    rw [ByteArray.data_append, Array.toList_append, h]
    show wg [] (G ([10, 32] ++ s.data.toList.flatMap bc ++ [32])) = wg [] (G s.data.toList)
    rw [G_app, G_app, List.append_assoc, show G [32] = [32] by decide, ← blanks_words s.data.toList []]
    show wg [] (10 :: (32 :: (G (s.data.toList.flatMap bc) ++ [32]))) = _
    rw [wg_blank (by decide), wg_blank (by decide)]
  rw [e]
/-! ### the law's loop -/
theorem rBlank (c : UInt8) : scrimref07_Blank.f (c.toNat : Int) = some (isB c) := by
  have h := all256 (fun c => decide (scrimref07_Blank.f (c.toNat : Int) = some (isB c))) (by kernel_rfl) c
  exact of_decide_eq_true h
theorem up_letter {c : UInt8} (h1 : 97 ≤ c.toNat) (h2 : c.toNat ≤ 122) : ((c.toNat : Int) - 32) % 256 = ((up c).toNat : Int) ∧ isB (up c) = false ∧ up c ≠ 62 ∧ isB c = false ∧ c ≠ 62 := by
  have := all256 (fun c => !(decide (97 ≤ c.toNat) && decide (c.toNat ≤ 122)) || (decide (((c.toNat : Int) - 32) % 256 = ((up c).toNat : Int)) && (!isB (up c) && (up c != 62 && (!isB c && c != 62))))) (by kernel_rfl) c
  rw [decide_eq_true h1, decide_eq_true h2] at this
  simp only [Bool.and_self, Bool.not_true, Bool.false_or, Bool.and_eq_true, decide_eq_true_iff, Bool.not_eq_true', bne_iff_ne] at this
  exact this
theorem num_byte (c : UInt8) : strOfNums [(c.toNat : Int)] = ba [c] := by
  unfold strOfNums ba
  simp
theorem ba_size (l : List UInt8) : (ba l).size = l.length := by rw [sz, ba_data]
theorem low_j1 (s x3 : ByteArray) (i : Nat) (c : UInt8) (hi : i < 1000) (hx : x3.size ≤ 100000) (hu : up c = c) (k : Nat) : scrimlaw09_SelectorBlanks.j1 (k + 1) s x3 (i : Int) (c.toNat : Int) false = scrimlaw09_SelectorBlanks.l0 k s (x3 ++ ba (bc c)) ((i + 1 : Nat) : Int) := by
  have l1 : (⟨#[32]⟩ : ByteArray).size = 1 := rfl
  have l9 : (⟨#[9]⟩ : ByteArray).size = 1 := rfl
  have e3 : ((⟨#[32]⟩ : ByteArray) ++ ba [c]) ++ (⟨#[9]⟩ : ByteArray) = ba [32, c, 9] := by
    apply ba_ext
    rw [ByteArray.data_append, Array.toList_append, ByteArray.data_append, Array.toList_append, ba_data, ba_data]
    rfl
  have b1 := ba_size [c]
  have b3 := ba_size [32, c, 9]
  simp at b1 b3
  rw [scrimlaw09_SelectorBlanks.j1, if_neg (by decide), rBlank, Option.bind_some]
  cases hb : isB c with
  | true =>
    have e : bc c = [32, c, 9] := by unfold bc; rw [if_pos (Or.inl hb)]
    rw [if_pos rfl, Option.bind_some, num_byte, if_pos (by omega), if_pos (by rw [ByteArray.size_append]; omega), e3, if_pos (by omega), w64s i (by omega), e]
  | false =>
    rw [if_neg (by decide)]
    by_cases h6 : c = 62
    · have e : bc c = [32, c, 9] := by unfold bc; rw [if_pos (Or.inr h6)]
      rw [if_pos (by rw [h6]; rfl), Option.bind_some, num_byte, if_pos (by omega), if_pos (by rw [ByteArray.size_append]; omega), e3, if_pos (by omega), w64s i (by omega), e]
    · have e : bc c = [c] := by unfold bc; rw [if_neg (by rw [hb]; simp [h6]), hu]
      rw [if_neg (fun e => h6 (byte_inj.1 (e.trans (show (62 : Int) = (((62 : UInt8)).toNat : Int) from rfl)))), Option.bind_some, num_byte, if_pos (by omega), w64s i (by omega), e]
theorem blanks_step (s x3 : ByteArray) (i : Nat) (c : UInt8) (t : List UInt8) (h : s.data.toList.drop i = c :: t) (hi : i < 1000) (hx : x3.size ≤ 100000) (k : Nat) : scrimlaw09_SelectorBlanks.l0 (k + 1 + 1) s x3 (i : Int) = scrimlaw09_SelectorBlanks.l0 k s (x3 ++ ba (bc c)) ((i + 1 : Nat) : Int) := by
  obtain ⟨g1, g2, g3⟩ := drop_at h
  rw [scrimlaw09_SelectorBlanks.l0, if_pos (by omega), if_pos (by omega), g2]
  by_cases h97 : (c.toNat : Int) ≥ 97
  · rw [if_pos h97]
    by_cases h122 : (c.toNat : Int) ≤ 122
    · obtain ⟨u1, u2, u3, u4, u5⟩ := up_letter (c := c) (by omega) (by omega)
      have e : bc c = [up c] := by unfold bc; rw [if_neg (by rw [u4]; simp [u5])]
      have b1 := ba_size [up c]
      simp at b1
      rw [decide_eq_true h122, scrimlaw09_SelectorBlanks.j1, if_pos rfl, u1, rBlank, u2, Option.bind_some, if_neg (by decide), if_neg (fun e => u3 (byte_inj.1 (e.trans (show (62 : Int) = (((62 : UInt8)).toNat : Int) from rfl)))), Option.bind_some, num_byte, if_pos (by omega), w64s i (by omega), e]
    · rw [decide_eq_false h122]
      exact low_j1 s x3 i c hi hx (by unfold up; rw [if_neg (by omega)]) k
  · rw [if_neg h97]
    exact low_j1 s x3 i c hi hx (by unfold up; rw [if_neg (by omega)]) k
theorem bc_len (c : UInt8) : (bc c).length ≤ 3 := by unfold bc; split <;> simp
theorem blanks_l (s : ByteArray) (hs : s.size ≤ 400) : ∀ (l : List UInt8) (i : Nat) (x3 : ByteArray), s.data.toList.drop i = l → i ≤ s.size → x3.size ≤ 2 + 3 * i → x3.data.toList = [10, 32] ++ (s.data.toList.take i).flatMap bc → Ev (fun k => scrimlaw09_SelectorBlanks.l0 k s x3 (i : Int)) true
  | [], i, x3, h, hi, hx, hd => by
    have he := drop_end h
    rw [List.take_of_length_le (by rw [← sz]; omega)] at hd
    have hR := rRead s (by omega)
    have l1 : (⟨#[32]⟩ : ByteArray).size = 1 := rfl
    have hR2 := rRead (x3 ++ ⟨#[32]⟩) (by rw [ByteArray.size_append]; omega)
    rw [blanks_read s x3 hd] at hR2
    refine Ev.step (f := fun k => (selector_Read.f k s).bind fun bt265 => ((selector_Read.f k (x3 ++ (⟨#[32]⟩ : ByteArray))).bind fun bt273 => (if (bt265.2.2 == bt273.2.2) = true then ((selector_Same.f bt265.1 bt265.2.1 bt273.1 bt273.2.1).bind fun t281 => (some t281)) else (some false)))) (fun k => by
      rw [scrimlaw09_SelectorBlanks.l0, if_neg (by omega)]
      congr 1
      funext bt265
      rw [if_pos (by omega)]) ?_
    refine Ev.bind hR (Ev.bind hR2 ?_)
    obtain ⟨m1, m2⟩ := read_may s
    generalize readV s = r at m1 m2
    obtain ⟨ps, bs, ok⟩ := r
    have hf : ps.length ≤ 1000 ∧ bs.length ≤ 1000 ∧ ∀ x ∈ ps, fine x := by
      cases ok with
      | true =>
        obtain ⟨a, b, c⟩ := fine_may (m1 rfl)
        exact ⟨Nat.le_trans a (by omega), Nat.le_trans b (by omega), c⟩
      | false =>
        have e := m2 rfl
        unfold zr at e
        injection e with e1 e2
        injection e2 with e2 e3
        subst e1; subst e2
        exact ⟨by simp, by simp, by simp⟩
    simp only [beq_self_eq_true, if_true, f_Same ps ps bs bs hf.1 hf.1 hf.2.1 hf.2.1 hf.2.2 hf.2.2, Option.bind_some, decide_true, Bool.and_self]
    exact Ev.now true
  | c :: t, i, x3, h, hi, hx, hd => by
    obtain ⟨g1, g2, g3⟩ := drop_at h
    have hl : i < s.data.toList.length := by rw [← sz]; exact g1
    have hc : s.data.toList[i] = c := by
      rw [List.drop_eq_getElem_cons hl] at h
      exact (List.cons.inj h).1
    have hb := bc_len c
    have ih := blanks_l s hs t (i + 1) (x3 ++ ba (bc c)) g3 (by omega) (by rw [ByteArray.size_append, ba_size]; omega) (by
      rw [ByteArray.data_append, Array.toList_append, hd, ba_data, List.take_succ_eq_append_getElem hl, List.flatMap_append, hc]
      simp)
    obtain ⟨K, hK⟩ := ih
    refine ⟨K + 2, fun k hk => ?_⟩
    obtain ⟨m, rfl⟩ : ∃ m, k = m + 1 + 1 := ⟨k - 2, by omega⟩
    show scrimlaw09_SelectorBlanks.l0 (m + 1 + 1) s x3 (i : Int) = some true
    rw [blanks_step s x3 i c t h (by omega) (by omega) m]
    exact hK m (by omega)
theorem SelectorBlanks (s : ByteArray) (hs0 : s.size ≤ 140737488351232) : ∃ k, scrimlaw09_SelectorBlanks.f k s = some true := by
  refine Ev.rounds (g := fun k => scrimlaw09_SelectorBlanks.f k s) ?_
  unfold scrimlaw09_SelectorBlanks.f
  refine Ev.bind awake ?_
  simp only [if_true]
  by_cases hs : (s.size : Int) > 400
  · simp only [if_pos hs]
    exact Ev.now true
  · simp only [if_neg hs]
    exact blanks_l s (by omega) s.data.toList 0 ⟨#[10, 32]⟩ List.drop_zero (Nat.zero_le _) (by decide) (by rw [List.take_zero]; rfl)
end Go.Proofs.YtdifaomkaekglabDoor.Pure
