/- Plain laws of lists: what scan's functions compute, as machines over bytes; no condition beside those that each theorem states. -/
import Derived.Test.YtdifaomkaekglaaDoorScE
set_option linter.unusedVariables false
set_option linter.unusedSimpArgs false
namespace Go.Proofs.Scn
open Go.Lib
abbrev bl : List UInt8 := [32, 9, 10, 13]
abbrev isB (c : UInt8) : Bool := bl.contains c
/-! ### Trim -/
def trimL (l : List UInt8) : List UInt8 := Lib.trimS l bl
theorem trimV_data (s : ByteArray) : (trimV s).data.toList = trimL s.data.toList := by simp [trimV, trimL]
theorem dw_cons_yes {p : UInt8 → Bool} {c : UInt8} {l : List UInt8} (h : p c = true) : (c :: l).dropWhile p = l.dropWhile p := by simp [List.dropWhile, h]
theorem dw_cons_no {p : UInt8 → Bool} {c : UInt8} {l : List UInt8} (h : p c = false) : (c :: l).dropWhile p = c :: l := by simp [List.dropWhile, h]
theorem dw_nil {p : UInt8 → Bool} : ∀ {l : List UInt8}, l.dropWhile p = [] ↔ ∀ c ∈ l, p c = true
  | [] => by simp
  | c :: t => by
    cases h : p c with
    | true =>
      rw [dw_cons_yes h, dw_nil]
      simp [h]
    | false =>
      rw [dw_cons_no h]
      simp [h]
/-- the blanks at the end are cut off first -/
theorem right_snoc_yes {l : List UInt8} {c : UInt8} (h : isB c = true) : Lib.trimRightS (l ++ [c]) bl = Lib.trimRightS l bl := by
  unfold Lib.trimRightS
  rw [List.reverse_append]
  show (List.dropWhile _ (c :: l.reverse)).reverse = _
  rw [dw_cons_yes h]
theorem right_snoc_no {l : List UInt8} {c : UInt8} (h : isB c = false) : Lib.trimRightS (l ++ [c]) bl = l ++ [c] := by
  unfold Lib.trimRightS
  rw [List.reverse_append]
  show (List.dropWhile _ (c :: l.reverse)).reverse = _
  rw [dw_cons_no h]
  simp
theorem right_cons {l : List UInt8} {c : UInt8} (h : Lib.trimRightS l bl ≠ []) : Lib.trimRightS (c :: l) bl = c :: Lib.trimRightS l bl := by
  unfold Lib.trimRightS at h ⊢
  rw [List.reverse_cons]
  have h2 : (l.reverse.dropWhile fun x => bl.contains x) ≠ [] := fun e => h (by rw [e]; rfl)
  rw [List.dropWhile_append]
  cases hd : (l.reverse.dropWhile fun x => bl.contains x) with
  | nil => exact absurd hd h2
  | cons a t => simp
theorem right_nil {l : List UInt8} (h : ∀ c ∈ l, isB c = true) : Lib.trimRightS l bl = [] := by
  unfold Lib.trimRightS
  rw [List.reverse_eq_nil_iff, dw_nil]
  intro c hc
  exact h c (List.mem_reverse.1 hc)
theorem right_none {l : List UInt8} (h : Lib.trimRightS l bl = []) : ∀ c ∈ l, isB c = true := by
  unfold Lib.trimRightS at h
  rw [List.reverse_eq_nil_iff, dw_nil] at h
  intro c hc
  exact h c (List.mem_reverse.2 hc)
theorem left_all {l : List UInt8} (h : ∀ c ∈ l, isB c = true) : Lib.trimLeftS l bl = [] := by
  unfold Lib.trimLeftS
  rw [dw_nil]
  exact h
theorem trim_cons {c : UInt8} {l : List UInt8} (h : isB c = true) : trimL (c :: l) = trimL l := by
  unfold trimL Lib.trimS
  by_cases e : Lib.trimRightS l bl = []
  · rw [e, right_nil (l := c :: l)]
    intro x hx
    rcases List.mem_cons.1 hx with rfl | hx
    · exact h
    · exact right_none e x hx
  · rw [right_cons e]
    unfold Lib.trimLeftS
    exact dw_cons_yes h
theorem trim_snoc {c : UInt8} {l : List UInt8} (h : isB c = true) : trimL (l ++ [c]) = trimL l := by
  unfold trimL Lib.trimS
  rw [right_snoc_yes h]
/-- no blank at either end -/
def tidy (l : List UInt8) : Prop := (∀ c, l.head? = some c → isB c = false) ∧ (∀ c, l.getLast? = some c → isB c = false)
theorem trim_tidy {l : List UInt8} (h : tidy l) : trimL l = l := by
  unfold trimL Lib.trimS
  have e : Lib.trimRightS l bl = l := by
    rcases List.eq_nil_or_concat l with rfl | ⟨t, c, rfl⟩
    · rfl
    · rw [List.concat_eq_append] at h ⊢
      exact right_snoc_no (h.2 c (by simp))
  rw [e]
  cases l with
  | nil => rfl
  | cons c t => exact dw_cons_no (h.1 c rfl)
theorem trim_is_tidy (l : List UInt8) : tidy (trimL l) := by
  have hh : ∀ (p : UInt8 → Bool) (l : List UInt8) c, (l.dropWhile p).head? = some c → p c = false := fun p l c hc => by
    have := List.head?_dropWhile_not p l
    rw [hc] at this
    simpa using this
  constructor
  · intro c hc
    exact hh _ _ c hc
  · intro c hc
    have : ∀ (l : List UInt8), (∀ c, l.getLast? = some c → isB c = false) → ∀ c, (Lib.trimLeftS l bl).getLast? = some c → isB c = false := fun l hl c hc => by
      unfold Lib.trimLeftS at hc
      obtain ⟨t, ht⟩ := List.dropWhile_suffix (l := l) (fun x => bl.contains x)
      refine hl c ?_
      rw [← ht, List.getLast?_append, hc]
      rfl
    refine this _ ?_ c hc
    intro c hc
    unfold Lib.trimRightS at hc
    rw [List.getLast?_reverse] at hc
    exact hh _ _ c hc
theorem trim_trim (l : List UInt8) : trimL (trimL l) = trimL l := trim_tidy (trim_is_tidy l)
theorem trim_len (l : List UInt8) : (trimL l).length ≤ l.length := by
  unfold trimL Lib.trimS
  refine Nat.le_trans (trimLeft_le _ _) ?_
  unfold Lib.trimRightS
  rw [List.length_reverse]
  refine Nat.le_trans (List.dropWhile_sublist _).length_le ?_
  simp
/-! ### Strip -/
/-- within a remark (true), or not -/
def scn (inside : Bool) : List UInt8 → List UInt8
  | [] => []
  | c :: t => match inside with
    | false => if c = 47 ∧ t.head? = some 42 then 32 :: scn true t.tail else c :: scn false t
    | true => if c = 42 ∧ t.head? = some 47 then scn false t.tail else scn true t
termination_by l => l.length
decreasing_by all_goals (simp; try omega)
theorem scn_nil (b : Bool) : scn b [] = [] := by rw [scn]
theorem scn_open {t : List UInt8} : scn false (47 :: 42 :: t) = 32 :: scn true t := by rw [scn]; simp
theorem scn_go {c : UInt8} {t : List UInt8} (h : ¬ (c = 47 ∧ t.head? = some 42)) : scn false (c :: t) = c :: scn false t := by rw [scn]; simp [h]
theorem scn_shut {t : List UInt8} : scn true (42 :: 47 :: t) = scn false t := by rw [scn]; simp
theorem scn_in {c : UInt8} {t : List UInt8} (h : ¬ (c = 42 ∧ t.head? = some 47)) : scn true (c :: t) = scn true t := by rw [scn]; simp [h]
theorem two_head {c d : UInt8} {t : List UInt8} (a b : UInt8) (h : c = a ∧ t.head? = some b) : ∃ u, c :: t = a :: b :: u := by
  obtain ⟨rfl, h2⟩ := h
  cases t with
  | nil => cases h2
  | cons x u =>
    simp at h2
    subst h2
    exact ⟨u, rfl⟩
theorem cut_nil (a b : UInt8) : Lib.cut [] [a, b] = ([], [], false) := by simp [Lib.cut, Lib.index]
theorem cut_here (a b : UInt8) (t : List UInt8) : Lib.cut (a :: b :: t) [a, b] = ([], t, true) := by
  unfold Lib.cut
  have : Lib.index (a :: b :: t) [a, b] = 0 := by simp [Lib.index, List.isPrefixOf]
  rw [this]
  simp
theorem cut_later {a b c : UInt8} {t : List UInt8} (h : ¬ (c = a ∧ t.head? = some b)) : Lib.cut (c :: t) [a, b] = (if (Lib.cut t [a, b]).2.2 = true then (c :: (Lib.cut t [a, b]).1, (Lib.cut t [a, b]).2.1, true) else (c :: t, [], false)) := by
  have hp : ([a, b] : List UInt8).isPrefixOf (c :: t) = false := by
    cases hq : ([a, b] : List UInt8).isPrefixOf (c :: t)
    · rfl
    · exfalso
      apply h
      cases t with
      | nil => simp [List.isPrefixOf] at hq
      | cons d u =>
        simp [List.isPrefixOf] at hq
        exact ⟨hq.1.symm, by simp [hq.2]⟩
  have hi : Lib.index (c :: t) [a, b] = if Lib.index t [a, b] == -1 then -1 else Lib.index t [a, b] + 1 := by
    rw [Lib.index, hp]
    rfl
  have hg := Lib.index_ge t [a, b]
  unfold Lib.cut
  rw [hi]
  by_cases e : Lib.index t [a, b] = -1
  · rw [e]
    simp
  · have e2 : (Lib.index t [a, b] == -1) = false := by simpa using e
    rw [e2]
    have h0 : 0 ≤ Lib.index t [a, b] := by omega
    simp only [Bool.false_eq_true, if_false]
    rw [if_pos (by omega), if_pos h0, if_pos rfl]
    have e3 : (Lib.index t [a, b] + 1).toNat = (Lib.index t [a, b]).toNat + 1 := by omega
    rw [e3]
    simp only [List.take_succ_cons]
    rw [show (Lib.index t [a, b]).toNat + 1 + [a, b].length = ((Lib.index t [a, b]).toNat + [a, b].length) + 1 by omega, List.drop_succ_cons]
theorem strip_scn : ∀ (n : Nat) (l : List UInt8), l.length ≤ n → (∀ k, l.length < k → stripF k l = scn false l) ∧ (∀ k, l.length < k → stripF k (Lib.cut l [42, 47]).2.1 = scn true l)
  | n, [], _ => by
    constructor
    · intro k hk
      obtain ⟨k, rfl⟩ : ∃ m, k = m + 1 := ⟨k - 1, by simp at hk; omega⟩
      rw [stripF, cut_nil, scn_nil]
      simp
    · intro k hk
      obtain ⟨k, rfl⟩ : ∃ m, k = m + 1 := ⟨k - 1, by simp at hk; omega⟩
      rw [cut_nil, stripF, cut_nil, scn_nil]
      simp
  | 0, _ :: _, h => by simp at h
  | n + 1, c :: t, h => by
    have ih := strip_scn n
    constructor
    · intro k hk
      obtain ⟨k, rfl⟩ : ∃ m, k = m + 1 := ⟨k - 1, by simp at hk; omega⟩
      by_cases e : c = 47 ∧ t.head? = some 42
      · obtain ⟨u, hu⟩ := two_head (d := 0) 47 42 e
        rw [hu] at h hk ⊢
        rw [stripF, cut_here, if_pos rfl, scn_open]
        simp only [List.length_cons] at h hk
        rw [(ih u (by omega)).2 k (by omega)]
        rfl
      · simp only [List.length_cons] at h hk
        have h1 := (ih t (by omega)).1 (k + 1) (by omega)
        rw [stripF] at h1
        rw [stripF, cut_later e, scn_go e, ← h1]
        by_cases f : (Lib.cut t [47, 42]).2.2 = true
        · rw [if_pos f, if_pos rfl, if_pos f]
          rfl
        · rw [if_neg f, if_neg f, if_neg (by simp), cut_no (by simpa using f)]
    · intro k hk
      by_cases e : c = 42 ∧ t.head? = some 47
      · obtain ⟨u, hu⟩ := two_head (d := 0) 42 47 e
        rw [hu] at h hk ⊢
        rw [cut_here, scn_shut]
        simp only [List.length_cons] at h hk
        exact (ih u (by omega)).1 k (by omega)
      · simp only [List.length_cons] at h hk
        have h1 := (ih t (by omega)).2 k (by omega)
        rw [cut_later e, scn_in e, ← h1]
        by_cases f : (Lib.cut t [42, 47]).2.2 = true
        · rw [if_pos f]
        · rw [if_neg f]
          have : (Lib.cut t [42, 47]).2.1 = [] := by
            unfold Lib.cut at f ⊢
            split at f
            · simp at f
            · rename_i g; rw [if_neg g]
          rw [this]
theorem stripV_data (s : ByteArray) : (stripV s).data.toList = scn false s.data.toList := by
  have := (strip_scn s.data.toList.length s.data.toList (Nat.le_refl _)).1 (s.size + 1) (by rw [← Lib.size_eq]; omega)
  simp [stripV, this]
theorem scn_len : ∀ (n : Nat) (b : Bool) (l : List UInt8), l.length ≤ n → (scn b l).length ≤ l.length
  | n, b, [], _ => by rw [scn_nil]; exact Nat.le_refl _
  | 0, _, _ :: _, h => by simp at h
  | n + 1, false, c :: t, h => by
    simp only [List.length_cons] at h
    by_cases e : c = 47 ∧ t.head? = some 42
    · obtain ⟨u, hu⟩ := two_head (d := 0) 47 42 e
      have hl : (c :: t).length = u.length + 2 := by rw [hu]; rfl
      rw [hu, scn_open]
      have := scn_len n true u (by simp at hl; omega)
      simp; omega
    · rw [scn_go e]
      have := scn_len n false t (by omega)
      simp; omega
  | n + 1, true, c :: t, h => by
    simp only [List.length_cons] at h
    by_cases e : c = 42 ∧ t.head? = some 47
    · obtain ⟨u, hu⟩ := two_head (d := 0) 42 47 e
      have hl : (c :: t).length = u.length + 2 := by rw [hu]; rfl
      rw [hu, scn_shut]
      have := scn_len n false u (by simp at hl; omega)
      simp; omega
    · rw [scn_in e]
      have := scn_len n true t (by omega)
      simp; omega
/-- no remark begins -/
def noRem : List UInt8 → Prop
  | [] => True
  | c :: t => ¬ (c = 47 ∧ t.head? = some 42) ∧ noRem t
theorem scn_head {l : List UInt8} (h : (scn false l).head? = some 42) : l.head? = some 42 := by
  cases l with
  | nil => rw [scn_nil] at h; cases h
  | cons c t =>
    by_cases e : c = 47 ∧ t.head? = some 42
    · obtain ⟨u, hu⟩ := two_head (d := 0) 47 42 e
      rw [hu, scn_open] at h
      cases h
    · rw [scn_go e] at h
      exact h
theorem scn_noRem : ∀ (n : Nat) (b : Bool) (l : List UInt8), l.length ≤ n → noRem (scn b l)
  | n, b, [], _ => by rw [scn_nil]; exact True.intro
  | 0, _, _ :: _, h => by simp at h
  | n + 1, false, c :: t, h => by
    simp only [List.length_cons] at h
    by_cases e : c = 47 ∧ t.head? = some 42
    · obtain ⟨u, hu⟩ := two_head (d := 0) 47 42 e
      have hl : (c :: t).length = u.length + 2 := by rw [hu]; rfl
      rw [hu, scn_open]
      exact ⟨fun q => absurd q.1 (by decide), scn_noRem n true u (by simp at hl; omega)⟩
    · rw [scn_go e]
      exact ⟨fun q => e ⟨q.1, scn_head q.2⟩, scn_noRem n false t (by omega)⟩
  | n + 1, true, c :: t, h => by
    simp only [List.length_cons] at h
    by_cases e : c = 42 ∧ t.head? = some 47
    · obtain ⟨u, hu⟩ := two_head (d := 0) 42 47 e
      have hl : (c :: t).length = u.length + 2 := by rw [hu]; rfl
      rw [hu, scn_shut]
      exact scn_noRem n false u (by simp at hl; omega)
    · rw [scn_in e]
      exact scn_noRem n true t (by omega)
theorem scn_same : ∀ {l : List UInt8}, noRem l → scn false l = l
  | [], _ => scn_nil _
  | c :: t, h => by rw [scn_go h.1, scn_same h.2]
theorem scn_scn (l : List UInt8) : scn false (scn false l) = scn false l := scn_same (scn_noRem _ _ l (Nat.le_refl _))
/-! ### Lower -/
theorem lowB_lowB (c : UInt8) : lowB (lowB c) = lowB c := by
  by_cases h : 65 ≤ c.toNat ∧ c.toNat ≤ 90
  · have h2 := lowB_yes h.1 h.2
    exact lowB_no (by omega)
  · rw [lowB_no h, lowB_no h]
theorem lowV_data (s : ByteArray) : (lowV s).data.toList = s.data.toList.map lowB := by simp [lowV]
theorem ba_ext {s t : ByteArray} (h : s.data.toList = t.data.toList) : s = t := by
  cases s; cases t
  simp at h
  rw [h]
theorem lowV_lowV (s : ByteArray) : lowV (lowV s) = lowV s := by
  refine ba_ext ?_
  rw [lowV_data, lowV_data, List.map_map]
  refine List.map_congr_left fun c _ => lowB_lowB c
end Go.Proofs.Scn
