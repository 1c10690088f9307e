/- Plain laws of lists: splitting at a byte, words, blocks, as machines over bytes; no condition beside those that each theorem states. -/
import Derived.Test.YtdifaomkaekglabDoorScP
set_option linter.unusedVariables false
set_option linter.unusedSimpArgs false
namespace Go.Proofs.Scn
open Go.Lib
/-! ### one byte looked for -/
theorem idx_spec (c : UInt8) : ∀ l : List UInt8, (Lib.index l [c] = -1 ∧ c ∉ l) ∨ ∃ p t, l = p ++ c :: t ∧ c ∉ p ∧ Lib.index l [c] = (p.length : Int)
  | [] => by left; simp [Lib.index]
  | b :: l => by
    by_cases h : c = b
    · subst h
      right
      exact ⟨[], l, rfl, by simp, by simp [Lib.index, List.isPrefixOf]⟩
    · have hp : ([c] : List UInt8).isPrefixOf (b :: l) = false := by simp [List.isPrefixOf, h]
      rcases idx_spec c l with ⟨h1, h2⟩ | ⟨p, t, h1, h2, h3⟩
      · left
        refine ⟨by simp [Lib.index, hp, h1], ?_⟩
        simp [h, h2]
      · right
        refine ⟨b :: p, t, by rw [h1]; rfl, by simp [h, h2], ?_⟩
        have hn : ((p.length : Int) == -1) = false := by rw [beq_eq_false_iff_ne]; omega
        simp [Lib.index, hp, h3, hn]
theorem cut_spec (c : UInt8) (l : List UInt8) : (Lib.cut l [c] = (l, [], false) ∧ c ∉ l) ∨ ∃ p t, l = p ++ c :: t ∧ c ∉ p ∧ Lib.cut l [c] = (p, t, true) := by
  rcases idx_spec c l with ⟨h1, h2⟩ | ⟨p, t, h1, h2, h3⟩
  · left
    refine ⟨?_, h2⟩
    unfold Lib.cut
    rw [h1, if_neg (by decide)]
  · right
    refine ⟨p, t, h1, h2, ?_⟩
    unfold Lib.cut
    rw [h3, if_pos (by omega), h1]
    simp
theorem any_spec (cs : List UInt8) : ∀ l : List UInt8, (Lib.indexAny l cs = -1 ∧ ∀ c ∈ l, cs.contains c = false) ∨ ∃ p b t, l = p ++ b :: t ∧ (∀ c ∈ p, cs.contains c = false) ∧ cs.contains b = true ∧ Lib.indexAny l cs = (p.length : Int)
  | [] => by left; simp [Lib.indexAny]
  | b :: l => by
    cases h : cs.contains b with
    | true =>
      right
      refine ⟨[], b, l, rfl, by simp, h, ?_⟩
      unfold Lib.indexAny
      rw [if_pos h]
      rfl
    | false =>
      have e : Lib.indexAny (b :: l) cs = if Lib.indexAny l cs == -1 then -1 else Lib.indexAny l cs + 1 := by
        rw [Lib.indexAny, h]
        simp
      rcases any_spec cs l with ⟨h1, h2⟩ | ⟨p, d, t, h1, h2, h3, h4⟩
      · left
        refine ⟨by rw [e, h1]; rfl, ?_⟩
        intro c hc
        rcases List.mem_cons.1 hc with rfl | hc
        · exact h
        · exact h2 c hc
      · right
        refine ⟨b :: p, d, t, by rw [h1]; rfl, ?_, h3, ?_⟩
        · intro c hc
          rcases List.mem_cons.1 hc with rfl | hc
          · exact h
          · exact h2 c hc
        · have hn : ((p.length : Int) == -1) = false := by rw [beq_eq_false_iff_ne]; omega
          rw [e, h4, hn]
          simp
/-! ### splitting at a byte -/
def spl (c : UInt8) : List UInt8 → List (List UInt8)
  | [] => [[]]
  | x :: t => if x = c then [] :: spl c t else match spl c t with
    | [] => [[x]]
    | h :: r => (x :: h) :: r
theorem spl_hit {c : UInt8} {t : List UInt8} : spl c (c :: t) = [] :: spl c t := by simp [spl]
theorem spl_step {c x : UInt8} {t : List UInt8} {h : List UInt8} {r : List (List UInt8)} (hx : x ≠ c) (ht : spl c t = h :: r) : spl c (x :: t) = (x :: h) :: r := by simp [spl, hx, ht]
theorem spl_ne (c : UInt8) : ∀ l : List UInt8, ∃ h r, spl c l = h :: r
  | [] => ⟨[], [], rfl⟩
  | x :: t => by
    obtain ⟨h, r, e⟩ := spl_ne c t
    by_cases hx : x = c
    · subst hx
      exact ⟨_, _, spl_hit⟩
    · exact ⟨_, _, spl_step hx e⟩
theorem spl_none {c : UInt8} : ∀ {l : List UInt8}, c ∉ l → spl c l = [l]
  | [], _ => rfl
  | x :: t, h => by
    simp at h
    exact spl_step (fun e => h.1 e.symm) (spl_none h.2)
theorem spl_cut {c : UInt8} {t : List UInt8} : ∀ {p : List UInt8}, c ∉ p → spl c (p ++ c :: t) = p :: spl c t
  | [], _ => spl_hit
  | x :: p, h => by
    simp at h
    exact spl_step (fun e => h.1 e.symm) (spl_cut h.2)
theorem spl_app (c : UInt8) (t : List UInt8) : ∀ p : List UInt8, spl c (p ++ c :: t) = spl c p ++ spl c t
  | [] => spl_hit
  | x :: p => by
    by_cases hx : x = c
    · subst hx
      rw [spl_hit, List.cons_append, spl_hit, spl_app]
      rfl
    · obtain ⟨h, r, e⟩ := spl_ne c p
      have e2 := spl_app c t p
      rw [e] at e2
      rw [spl_step hx e]
      exact spl_step hx e2
theorem spl_snoc {c b : UInt8} (hb : b ≠ c) : ∀ p : List UInt8, ∃ xs y, spl c p = xs ++ [y] ∧ spl c (p ++ [b]) = xs ++ [y ++ [b]]
  | [] => ⟨[], [], rfl, by simp [spl, hb]⟩
  | x :: p => by
    obtain ⟨xs, y, e1, e2⟩ := spl_snoc hb p
    by_cases hx : x = c
    · subst hx
      exact ⟨[] :: xs, y, by rw [spl_hit, e1]; rfl, by rw [List.cons_append, spl_hit, e2]; rfl⟩
    · cases xs with
      | nil => exact ⟨[], x :: y, spl_step hx e1, spl_step hx e2⟩
      | cons h r => exact ⟨(x :: h) :: r, y, spl_step hx e1, spl_step hx e2⟩
theorem splitK_spl (c : UInt8) : ∀ (n : Nat) (l : List UInt8), l.length < n → Lib.splitK [c] 0 (Lib.countFrom [c] n l) l = spl c l
  | 0, l, h => by omega
  | n + 1, l, h => by
    rcases idx_spec c l with ⟨h1, h2⟩ | ⟨p, t, h1, h2, h3⟩
    · rw [Lib.countFrom, h1, spl_none h2]
      rfl
    · have hn : ((p.length : Int) == -1) = false := by rw [beq_eq_false_iff_ne]; omega
      have hd : l.drop (p.length + 1) = t := by rw [h1]; simp
      have ht : l.take p.length = p := by rw [h1]; simp
      have hl : t.length < n := by rw [h1] at h; simp at h; omega
      rw [Lib.countFrom, h3, hn, if_neg (by decide), Nat.add_comm 1, Lib.splitK, h3, hn, if_neg (by decide)]
      show l.take (p.length + 0) :: Lib.splitK [c] 0 (Lib.countFrom [c] n (l.drop (p.length + 1))) (l.drop (p.length + 1)) = _
      rw [hd, Nat.add_zero, ht, splitK_spl c n t hl, h1, spl_cut h2]
def ba (l : List UInt8) : ByteArray := ⟨l.toArray⟩
theorem ba_data (l : List UInt8) : (ba l).data.toList = l := by simp [ba]
theorem data_ba (s : ByteArray) : ba s.data.toList = s := by simp [ba]
theorem trimV_ba (s : ByteArray) : trimV s = ba (trimL s.data.toList) := rfl
theorem splitV_eq (s : ByteArray) (c : UInt8) : splitV s c = (spl c s.data.toList).map fun l => ba (trimL l) := by
  have e := Lib.splitB_data ⟨#[c]⟩ 0 (Lib.countB s ⟨#[c]⟩) s
  have e2 : Lib.splitK [c] 0 (Lib.countB s ⟨#[c]⟩) s.data.toList = spl c s.data.toList := splitK_spl c _ _ (Nat.lt_succ_self _)
  unfold splitV
  rw [← e2]
  rw [show ([c] : List UInt8) = (⟨#[c]⟩ : ByteArray).data.toList from rfl, ← e, List.map_map]
  rfl
/-- what follows a separator and the blanks about it -/
theorem spl_sep {c : UInt8} (hb : (32 : UInt8) ≠ c) (p w : List UInt8) (hw : c ∉ w) (ht : trimL w = w) : (spl c (p ++ [32] ++ c :: (32 :: w))).map trimL = (spl c p).map trimL ++ [w] := by
  rw [spl_app]
  obtain ⟨xs, y, e1, e2⟩ := spl_snoc hb p
  rw [e1, e2, spl_none (l := 32 :: w) (by simp [hw, Ne.symm hb]), List.map_append, List.map_append, List.map_append]
  simp [trim_snoc (c := 32) (l := y) rfl, trim_cons (c := 32) (l := w) rfl, ht]
/-! ### words -/
def wg : List UInt8 → List UInt8 → List (List UInt8)
  | cur, [] => if cur = [] then [] else [cur]
  | cur, c :: t => if isB c = true then (if cur = [] then wg [] t else cur :: wg [] t) else wg (cur ++ [c]) t
theorem wg_blank {c : UInt8} {t : List UInt8} (h : isB c = true) : wg [] (c :: t) = wg [] t := by rw [wg, if_pos h, if_pos rfl]
theorem wg_shut {c : UInt8} {cur t : List UInt8} (h : isB c = true) (hc : cur ≠ []) : wg cur (c :: t) = cur :: wg [] t := by rw [wg, if_pos h, if_neg hc]
theorem wg_go {c : UInt8} {cur t : List UInt8} (h : isB c = false) : wg cur (c :: t) = wg (cur ++ [c]) t := by rw [wg, h]; rfl
theorem wg_blanks {t : List UInt8} : ∀ {p : List UInt8}, (∀ c ∈ p, isB c = true) → wg [] (p ++ t) = wg [] t
  | [], _ => rfl
  | c :: p, h => by
    rw [List.cons_append, wg_blank (h c (by simp)), wg_blanks fun d hd => h d (by simp [hd])]
theorem wg_word {t : List UInt8} : ∀ {p cur : List UInt8}, (∀ c ∈ p, isB c = false) → wg cur (p ++ t) = wg (cur ++ p) t
  | [], cur, _ => by simp
  | c :: p, cur, h => by
    rw [List.cons_append, wg_go (h c (by simp)), wg_word fun d hd => h d (by simp [hd])]
    simp
theorem wg_trimLeft : ∀ l : List UInt8, wg [] (Lib.trimLeftS l bl) = wg [] l
  | [] => rfl
  | c :: t => by
    have ih := wg_trimLeft t
    unfold Lib.trimLeftS at ih ⊢
    cases h : isB c with
    | true => rw [dw_cons_yes h, wg_blank h, ih]
    | false => rw [dw_cons_no h]
theorem trimLeft_head {l : List UInt8} {c : UInt8} {t : List UInt8} (h : Lib.trimLeftS l bl = c :: t) : isB c = false := by
  induction l with
  | nil => cases h
  | cons d u ih =>
    unfold Lib.trimLeftS at h ih
    cases hd : isB d with
    | true => rw [dw_cons_yes hd] at h; exact ih h
    | false =>
      rw [dw_cons_no hd] at h
      cases h
      exact hd
theorem wordsF_nil : ∀ k, wordsF k [] = []
  | 0 => rfl
  | k + 1 => rfl
theorem wordsF_wg : ∀ (k : Nat) (l : List UInt8), l.length < k → wordsF k l = wg [] l
  | 0, l, h => by omega
  | k + 1, l, h => by
    have hl := trimLeft_le l bl
    rw [wordsF, ← wg_trimLeft l]
    generalize ht : Lib.trimLeftS l bl = t at hl
    rcases any_spec bl t with ⟨h1, h2⟩ | ⟨p, b, u, h1, h2, h3, h4⟩
    · have e : wordEnd t = t.length := by unfold wordEnd; rw [h1]; rfl
      rw [e]
      by_cases h0 : t.length = 0
      · rw [if_pos h0, List.length_eq_zero_iff.1 h0]; rfl
      · rw [if_neg h0, List.take_length, List.drop_length, wordsF_nil]
        have := wg_word (t := []) (p := t) (cur := []) h2
        rw [List.append_nil, List.nil_append] at this
        rw [this, wg, if_neg (fun e => h0 (by rw [e]; rfl))]
    · have e : wordEnd t = p.length := by unfold wordEnd; rw [h4, if_neg (by omega)]; rfl
      have hp : p ≠ [] := by
        intro hp
        subst hp
        have := trimLeft_head (l := l) (ht.trans h1)
        exact absurd (this.symm.trans h3) (by decide)
      have hp0 : p.length ≠ 0 := fun e => hp (List.length_eq_zero_iff.1 e)
      have hlen : (b :: u).length < k := by rw [h1] at hl; simp at hl ⊢; omega
      rw [e, if_neg hp0, h1]
      simp only [List.take_left, List.drop_left]
      rw [wordsF_wg k _ hlen, wg_blank h3, wg_word h2, List.nil_append, wg_shut h3 hp]
theorem wordsV_eq (s : ByteArray) : wordsV s = (wg [] s.data.toList).map ba := by
  unfold wordsV
  rw [wordsF_wg _ _ (by rw [← Lib.size_eq]; exact Nat.lt_succ_self _)]
  rfl
/-! ### blocks -/
def bgo : Option (List UInt8) → List UInt8 → List UInt8 → List (List UInt8 × List UInt8)
  | _, _, [] => []
  | none, cur, c :: t => if c = 123 then bgo (some cur) [] t else if c = 125 then bgo none [] t else bgo none (cur ++ [c]) t
  | some h, cur, c :: t => if c = 125 then (h, cur) :: bgo none [] t else bgo (some h) (cur ++ [c]) t
theorem bgo_nil (o : Option (List UInt8)) (cur : List UInt8) : bgo o cur [] = [] := by cases o <;> rfl
theorem bgo_open {cur t : List UInt8} : bgo none cur (123 :: t) = bgo (some cur) [] t := by simp [bgo]
theorem bgo_reset {cur t : List UInt8} : bgo none cur (125 :: t) = bgo none [] t := by simp [bgo]
theorem bgo_shut {h cur t : List UInt8} : bgo (some h) cur (125 :: t) = (h, cur) :: bgo none [] t := by simp [bgo]
theorem bgo_none {c : UInt8} {cur t : List UInt8} (h1 : c ≠ 123) (h2 : c ≠ 125) : bgo none cur (c :: t) = bgo none (cur ++ [c]) t := by simp [bgo, h1, h2]
theorem bgo_some {c : UInt8} {h cur t : List UInt8} (h2 : c ≠ 125) : bgo (some h) cur (c :: t) = bgo (some h) (cur ++ [c]) t := by simp [bgo, h2]
theorem bgo_none_app {t : List UInt8} : ∀ {p cur : List UInt8}, (∀ c ∈ p, c ≠ 123 ∧ c ≠ 125) → bgo none cur (p ++ t) = bgo none (cur ++ p) t
  | [], cur, _ => by simp
  | c :: p, cur, h => by
    rw [List.cons_append, bgo_none (h c (by simp)).1 (h c (by simp)).2, bgo_none_app fun d hd => h d (by simp [hd])]
    simp
theorem bgo_some_app {hd t : List UInt8} : ∀ {p cur : List UInt8}, (∀ c ∈ p, c ≠ 125) → bgo (some hd) cur (p ++ t) = bgo (some hd) (cur ++ p) t
  | [], cur, _ => by simp
  | c :: p, cur, h => by
    rw [List.cons_append, bgo_some (h c (by simp)), bgo_some_app fun d hd => h d (by simp [hd])]
    simp
end Go.Proofs.Scn
