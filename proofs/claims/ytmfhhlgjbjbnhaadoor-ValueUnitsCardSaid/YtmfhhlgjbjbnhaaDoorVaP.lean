/- Digits and what they spell, in plain words (no program in sight); no condition beside those that each theorem states. -/
import Derived.Lib.ParseIntB
import Derived.Lib.ParseIntBCases
import Derived.Lib.SlTrimSet
import Derived.Lib.Strings
import Derived.Lib.IndexMore
import Derived.Lib.ItoaNum
set_option linter.unusedVariables false
set_option linter.unusedSimpArgs false
namespace Go.Proofs.Val
open Go
def isDig (c : UInt8) : Bool := decide (48 ≤ c.toNat) && decide (c.toNat ≤ 57)
theorem isDig_iff {c : UInt8} : isDig c = true ↔ 48 ≤ c.toNat ∧ c.toNat ≤ 57 := by simp [isDig]
theorem u8_all {P : UInt8 → Prop} (h : ∀ n : Fin 256, P (UInt8.ofNat n.val)) (c : UInt8) : P c := by
  have := h ⟨c.toNat, c.toNat_lt⟩
  simpa using this
theorem dig_contains (c : UInt8) : ([48, 49, 50, 51, 52, 53, 54, 55, 56, 57] : List UInt8).contains c = isDig c :=
  u8_all (P := fun c => ([48, 49, 50, 51, 52, 53, 54, 55, 56, 57] : List UInt8).contains c = isDig c) (by decide +kernel) c
theorem dropWhile_nil {p : UInt8 → Bool} : ∀ {l : List UInt8}, l.dropWhile p = [] ↔ l.all p = true
  | [] => by simp
  | c :: l => by
    by_cases h : p c = true
    · simp [List.dropWhile, h, dropWhile_nil (l := l)]
    · simp [List.dropWhile, h]
theorem dropWhile_sub {p : UInt8 → Bool} (l : List UInt8) : (l.dropWhile p).all p = true → l.all p = true := fun h => by
  have h2 : (l.dropWhile p).dropWhile p = [] := dropWhile_nil.2 h
  by_cases e : l.dropWhile p = []
  · exact dropWhile_nil.1 e
  · obtain ⟨c, r, hr⟩ := List.exists_cons_of_ne_nil e
    have hc : p c = false := by
      have := List.head_dropWhile_not p (l := l) (by rw [hr]; simp)
      simpa [hr] using this
    rw [hr] at h
    simp [hc] at h
theorem trim_dig_nil (l : List UInt8) : Lib.trimS l [48, 49, 50, 51, 52, 53, 54, 55, 56, 57] = [] ↔ l.all isDig = true := by
  have e : ∀ l : List UInt8, l.dropWhile (([48, 49, 50, 51, 52, 53, 54, 55, 56, 57] : List UInt8).contains ·) = l.dropWhile isDig := fun l => by
    congr 1; funext c; exact dig_contains c
  unfold Lib.trimS Lib.trimLeftS Lib.trimRightS
  rw [e, e, dropWhile_nil, List.all_reverse]
  constructor
  · intro h
    have := dropWhile_sub _ h
    rwa [List.all_reverse] at this
  · intro h
    have : l.reverse.dropWhile isDig = [] := dropWhile_nil.2 (by rw [List.all_reverse]; exact h)
    rw [this]; rfl
/-- what digits spell behind others that spell acc -/
def decV (acc : Nat) (l : List UInt8) : Nat := l.foldl (fun a c => a * 10 + (c.toNat - 48)) acc
theorem decV_nil (a : Nat) : decV a [] = a := rfl
theorem decV_cons (a : Nat) (c : UInt8) (l : List UInt8) : decV a (c :: l) = decV (a * 10 + (c.toNat - 48)) l := by unfold decV; rw [List.foldl_cons]
theorem decV_append (a : Nat) (l m : List UInt8) : decV a (l ++ m) = decV (decV a l) m := List.foldl_append
theorem decV_lt : ∀ (l : List UInt8) (a k : Nat), l.all isDig = true → a < 10 ^ k → decV a l < 10 ^ (k + l.length)
  | [], a, k, _, h => by simpa [decV] using h
  | c :: l, a, k, hd, h => by
    simp only [List.all_cons, Bool.and_eq_true, isDig_iff] at hd
    rw [decV_cons]
    have := decV_lt l (a * 10 + (c.toNat - 48)) (k + 1) hd.2 (by rw [Nat.pow_succ]; omega)
    rw [List.length_cons, show k + (l.length + 1) = k + 1 + l.length by omega]
    exact this
theorem parseM_dig (M : Nat) (hM : 1000000000000000000 ≤ M) (l : List UInt8) : ∀ (a k : Nat), l.all isDig = true → a < 10 ^ k → k + l.length ≤ 18 → Lib.parseUintM M a l = .ok (decV a l) := by
  induction l with
  | nil => intro a k _ _ _; rfl
  | cons c l ih =>
    intro a k hd h hk
    simp only [List.all_cons, Bool.and_eq_true, isDig_iff] at hd
    rw [List.length_cons] at hk
    have hp : 10 ^ k ≤ 10 ^ 17 := Nat.pow_le_pow_right (by omega) (by omega)
    generalize h17 : 10 ^ 17 = T at hp
    have hT : T = 100000000000000000 := h17.symm
    have ih := ih (a * 10 + (c.toNat - 48)) (k + 1) hd.2 (by rw [Nat.pow_succ]; omega) (by omega)
    have hc := hd.1
    clear hd h17
    rw [Lib.parseUintM, if_pos hc, if_neg (by omega), if_neg (by omega), ih, decV_cons]
theorem parse_dig {l : List UInt8} (hd : l.all isDig = true) (hn : l ≠ []) (hl : l.length ≤ 18) : Lib.parseIntB 64 l = .ok (decV 0 l : Int) := by
  obtain ⟨c, r, rfl⟩ := List.exists_cons_of_ne_nil hn
  have hc := hd
  simp only [List.all_cons, Bool.and_eq_true, isDig_iff] at hc
  have hm := parseM_dig (2 ^ 64 - 1) (by decide) (c :: r) 0 0 hd (by simp) (by omega)
  have hv := decV_lt (c :: r) 0 0 hd (by simp)
  have hp : 10 ^ (0 + (c :: r).length) ≤ 1000000000000000000 := Nat.le_trans (Nat.pow_le_pow_right (by omega) (by omega : 0 + (c :: r).length ≤ 18)) (Nat.le_of_eq (by rfl))
  have h63 : (2 : Nat) ^ (64 - 1) = 9223372036854775808 := by decide
  rw [Lib.parseIntB_plain 64 c r (by omega) (by omega), Lib.parseUintB, if_neg (by simp), hm, h63]
  show (if 9223372036854775808 ≤ decV 0 (c :: r) then _ else _) = _
  rw [if_neg (by omega)]
def digB (l : List UInt8) (m : Int) : Bool := decide (l ≠ []) && (decide ((l.length : Int) ≤ m) && l.all isDig)
theorem digB_iff {l : List UInt8} {m : Int} : digB l m = true ↔ l ≠ [] ∧ (l.length : Int) ≤ m ∧ l.all isDig = true := by simp [digB]
def zeros6 : List UInt8 := [48, 48, 48, 48, 48, 48]
/-- the six places of a part -/
def sixV (part : List UInt8) : Nat := decV 0 ((part ++ zeros6).take 6)
theorem six_dig {part : List UInt8} (h : part.all isDig = true) : ((part ++ zeros6).take 6).all isDig = true ∧ ((part ++ zeros6).take 6).length = 6 := by
  refine ⟨List.all_eq_true.2 fun c hc => ?_, by simp [zeros6]⟩
  rcases List.mem_append.1 (List.mem_of_mem_take hc) with h' | h'
  · exact List.all_eq_true.1 h c h'
  · simp only [zeros6, List.mem_cons, List.mem_nil_iff, or_false] at h'
    rcases h' with rfl | rfl | rfl | rfl | rfl | rfl <;> decide
theorem six_lt {part : List UInt8} (h : part.all isDig = true) : sixV part < 1000000 := by
  have := decV_lt _ 0 0 (six_dig h).1 (by simp)
  rw [(six_dig h).2] at this
  simpa [sixV] using this
/-- a number's text: below 0, the whole, the part, whether there is a point -/
def numParts (l : List UInt8) : Bool × List UInt8 × List UInt8 × Bool := (Lib.hasPrefix l [45], Lib.cut (Lib.trimPrefix l [45]) [46])
def numOk (l : List UInt8) : Bool := digB (numParts l).2.1 9 && (!(numParts l).2.2.2 || digB (numParts l).2.2.1 6)
def numA (l : List UInt8) : Int := (decV 0 (numParts l).2.1 : Int) * 64 + (sixV (numParts l).2.2.1 : Int) * 64 / 1000000
def numN (l : List UInt8) : Int := if numOk l = true then (if (numParts l).1 = true then -numA l else numA l) else 0
end Go.Proofs.Val
