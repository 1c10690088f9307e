/- Plain laws of lists: what scan's functions compute, as machines over bytes; no condition beside those that each theorem states. -/
import Derived.Test.YtdifaomkaekglabDoorScE
set_option linter.unusedVariables false
set_option linter.unusedSimpArgs false
namespace Go.Proofs.Scn
open Go.Lib
abbrev bl : List UInt8 := [32, 9, 10, 13]
abbrev isB (c : UInt8) : Bool := bl.contains c
/-! ### Trim -/
def trimL (l : List UInt8) : List UInt8 := Lib.trimS l bl
theorem trimV_data (s : ByteArray) : (trimV s).data.toList = trimL s.data.toList := by simp [trimV, trimL]
theorem dw_cons_yes {p : UInt8 → Bool} {c : UInt8} {l : List UInt8} (h : p c = true) : (c :: l).dropWhile p = l.dropWhile p := by simp [List.dropWhile, h]
theorem dw_cons_no {p : UInt8 → Bool} {c : UInt8} {l : List UInt8} (h : p c = false) : (c :: l).dropWhile p = c :: l := by simp [List.dropWhile, h]
theorem dw_nil {p : UInt8 → Bool} : ∀ {l : List UInt8}, l.dropWhile p = [] ↔ ∀ c ∈ l, p c = true
  | [] => by simp
  | c :: t => by
    cases h : p c with
    | true =>
      rw [dw_cons_yes h, dw_nil]
      simp [h]
    | false =>
      rw [dw_cons_no h]
      simp [h]
/-- the blanks at the end are cut off first -/
theorem right_snoc_yes {l : List UInt8} {c : UInt8} (h : isB c = true) : Lib.trimRightS (l ++ [c]) bl = Lib.trimRightS l bl := by
  unfold Lib.trimRightS
  rw [List.reverse_append]
  show (List.dropWhile _ (c :: l.reverse)).reverse = _
  rw [dw_cons_yes h]
theorem right_snoc_no {l : List UInt8} {c : UInt8} (h : isB c = false) : Lib.trimRightS (l ++ [c]) bl = l ++ [c] := by
  unfold Lib.trimRightS
  rw [List.reverse_append]
  show (List.dropWhile _ (c :: l.reverse)).reverse = _
  rw [dw_cons_no h]
  simp
theorem right_cons {l : List UInt8} {c : UInt8} (h : Lib.trimRightS l bl ≠ []) : Lib.trimRightS (c :: l) bl = c :: Lib.trimRightS l bl := by
  unfold Lib.trimRightS at h ⊢
  rw [List.reverse_cons]
  have h2 : (l.reverse.dropWhile fun x => bl.contains x) ≠ [] := fun e => h (by rw [e]; rfl)
  rw [List.dropWhile_append]
  cases hd : (l.reverse.dropWhile fun x => bl.contains x) with
  | nil => exact absurd hd h2
  | cons a t => simp
theorem right_nil {l : List UInt8} (h : ∀ c ∈ l, isB c = true) : Lib.trimRightS l bl = [] := by
  unfold Lib.trimRightS
  rw [List.reverse_eq_nil_iff, dw_nil]
  intro c hc
  exact h c (List.mem_reverse.1 hc)
theorem right_none {l : List UInt8} (h : Lib.trimRightS l bl = []) : ∀ c ∈ l, isB c = true := by
  unfold Lib.trimRightS at h
  rw [List.reverse_eq_nil_iff, dw_nil] at h
  intro c hc
  exact h c (List.mem_reverse.2 hc)
theorem left_all {l : List UInt8} (h : ∀ c ∈ l, isB c = true) : Lib.trimLeftS l bl = [] := by
  unfold Lib.trimLeftS
  rw [dw_nil]
  exact h
theorem trim_cons {c : UInt8} {l : List UInt8} (h : isB c = true) : trimL (c :: l) = trimL l := by
  unfold trimL Lib.trimS
  by_cases e : Lib.trimRightS l bl = []
  · rw [e, right_nil (l := c :: l)]
    intro x hx
    rcases List.mem_cons.1 hx with rfl | hx
    · exact h
    · exact right_none e x hx
  · rw [right_cons e]
    unfold Lib.trimLeftS
    exact dw_cons_yes h
theorem trim_snoc {c : UInt8} {l : List UInt8} (h : isB c = true) : trimL (l ++ [c]) = trimL l := by
  unfold trimL Lib.trimS
  rw [right_snoc_yes h]
/-- no blank at either end -/
def tidy (l : List UInt8) : Prop := (∀ c, l.head? = some c → isB c = false) ∧ (∀ c, l.getLast? = some c → isB c = false)
theorem trim_tidy {l : List UInt8} (h : tidy l) : trimL l = l := by
  unfold trimL Lib.trimS
  have e : Lib.trimRightS l bl = l := by
    rcases List.eq_nil_or_concat l with rfl | ⟨t, c, rfl⟩
    · rfl
    · rw [List.concat_eq_append] at h ⊢
      exact right_snoc_no (h.2 c (by simp))
  rw [e]
  cases l with
  | nil => rfl
  | cons c t => exact dw_cons_no (h.1 c rfl)
theorem trim_is_tidy (l : List UInt8) : tidy (trimL l) := by
  have hh : ∀ (p : UInt8 → Bool) (l : List UInt8) c, (l.dropWhile p).head? = some c → p c = false := fun p l c hc => by
    have := List.head?_dropWhile_not p l
    rw [hc] at this
    simpa using this
  constructor
  · intro c hc
    exact hh _ _ c hc
  · intro c hc
    have : ∀ (l : List UInt8), (∀ c, l.getLast? = some c → isB c = false) → ∀ c, (Lib.trimLeftS l bl).getLast? = some c → isB c = false := fun l hl c hc => by
      unfold Lib.trimLeftS at hc
      obtain ⟨t, ht⟩ := List.dropWhile_suffix (l := l) (fun x => bl.contains x)
      refine hl c ?_
      rw [← ht, List.getLast?_append, hc]
      rfl
    refine this _ ?_ c hc
    intro c hc
    unfold Lib.trimRightS at hc
    rw [List.getLast?_reverse] at hc
    exact hh _ _ c hc
theorem trim_trim (l : List UInt8) : trimL (trimL l) = trimL l := trim_tidy (trim_is_tidy l)
theorem trim_len (l : List UInt8) : (trimL l).length ≤ l.length := by
  unfold trimL Lib.trimS
  refine Nat.le_trans (trimLeft_le _ _) ?_
  unfold Lib.trimRightS
  rw [List.length_reverse]
  refine Nat.le_trans (List.dropWhile_sublist _).length_le ?_
  simp
theorem lowB_lowB (c : UInt8) : lowB (lowB c) = lowB c := by
  by_cases h : 65 ≤ c.toNat ∧ c.toNat ≤ 90
  · have h2 := lowB_yes h.1 h.2
    exact lowB_no (by omega)
  · rw [lowB_no h, lowB_no h]
theorem lowV_data (s : ByteArray) : (lowV s).data.toList = s.data.toList.map lowB := by simp [lowV]
theorem ba_ext {s t : ByteArray} (h : s.data.toList = t.data.toList) : s = t := by
  cases s; cases t
  simp at h
  rw [h]
theorem lowV_lowV (s : ByteArray) : lowV (lowV s) = lowV s := by
  refine ba_ext ?_
  rw [lowV_data, lowV_data, List.map_map]
  refine List.map_congr_left fun c _ => lowB_lowB c
end Go.Proofs.Scn
