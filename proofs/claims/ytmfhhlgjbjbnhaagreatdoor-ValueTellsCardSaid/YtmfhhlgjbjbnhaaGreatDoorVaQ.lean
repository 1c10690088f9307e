/- Digits and what they spell, in plain words (no program in sight); no condition beside those that each theorem states. -/
import Derived.Lib.ParseIntB
import Derived.Lib.ParseIntBCases
import Derived.Lib.SlTrimSet
import Derived.Lib.Strings
import Derived.Lib.IndexMore
import Derived.Lib.ItoaNum
set_option linter.unusedVariables false
set_option linter.unusedSimpArgs false
namespace Go.Proofs.Val
open Go
def isDig (c : UInt8) : Bool := decide (48 ≤ c.toNat) && decide (c.toNat ≤ 57)
theorem isDig_iff {c : UInt8} : isDig c = true ↔ 48 ≤ c.toNat ∧ c.toNat ≤ 57 := by simp [isDig]
theorem u8_all {P : UInt8 → Prop} (h : ∀ n : Fin 256, P (UInt8.ofNat n.val)) (c : UInt8) : P c := by
  have := h ⟨c.toNat, c.toNat_lt⟩
  simpa using this
theorem dig_contains (c : UInt8) : ([48, 49, 50, 51, 52, 53, 54, 55, 56, 57] : List UInt8).contains c = isDig c :=
  u8_all (P := fun c => ([48, 49, 50, 51, 52, 53, 54, 55, 56, 57] : List UInt8).contains c = isDig c) (by decide +kernel) c
theorem dropWhile_nil {p : UInt8 → Bool} : ∀ {l : List UInt8}, l.dropWhile p = [] ↔ l.all p = true
  | [] => by simp
  | c :: l => by
    by_cases h : p c = true
    · simp [List.dropWhile, h, dropWhile_nil (l := l)]
    · simp [List.dropWhile, h]
theorem dropWhile_sub {p : UInt8 → Bool} (l : List UInt8) : (l.dropWhile p).all p = true → l.all p = true := fun h => by
  have h2 : (l.dropWhile p).dropWhile p = [] := dropWhile_nil.2 h
  by_cases e : l.dropWhile p = []
  · exact dropWhile_nil.1 e
  · obtain ⟨c, r, hr⟩ := List.exists_cons_of_ne_nil e
    have hc : p c = false := by
      have := List.head_dropWhile_not p (l := l) (by rw [hr]; simp)
      simpa [hr] using this
    rw [hr] at h
    simp [hc] at h
theorem trim_dig_nil (l : List UInt8) : Lib.trimS l [48, 49, 50, 51, 52, 53, 54, 55, 56, 57] = [] ↔ l.all isDig = true := by
  have e : ∀ l : List UInt8, l.dropWhile (([48, 49, 50, 51, 52, 53, 54, 55, 56, 57] : List UInt8).contains ·) = l.dropWhile isDig := fun l => by
    congr 1; funext c; exact dig_contains c
  unfold Lib.trimS Lib.trimLeftS Lib.trimRightS
  rw [e, e, dropWhile_nil, List.all_reverse]
  constructor
  · intro h
    have := dropWhile_sub _ h
    rwa [List.all_reverse] at this
  · intro h
    have : l.reverse.dropWhile isDig = [] := dropWhile_nil.2 (by rw [List.all_reverse]; exact h)
    rw [this]; rfl
/-- what digits spell behind others that spell acc -/
def decV (acc : Nat) (l : List UInt8) : Nat := l.foldl (fun a c => a * 10 + (c.toNat - 48)) acc
theorem decV_nil (a : Nat) : decV a [] = a := rfl
theorem decV_cons (a : Nat) (c : UInt8) (l : List UInt8) : decV a (c :: l) = decV (a * 10 + (c.toNat - 48)) l := by unfold decV; rw [List.foldl_cons]
theorem decV_append (a : Nat) (l m : List UInt8) : decV a (l ++ m) = decV (decV a l) m := List.foldl_append
theorem decV_lt : ∀ (l : List UInt8) (a k : Nat), l.all isDig = true → a < 10 ^ k → decV a l < 10 ^ (k + l.length)
  | [], a, k, _, h => by simpa [decV] using h
  | c :: l, a, k, hd, h => by
    simp only [List.all_cons, Bool.and_eq_true, isDig_iff] at hd
    rw [decV_cons]
    have := decV_lt l (a * 10 + (c.toNat - 48)) (k + 1) hd.2 (by rw [Nat.pow_succ]; omega)
    rw [List.length_cons, show k + (l.length + 1) = k + 1 + l.length by omega]
    exact this
theorem parseM_dig (M : Nat) (hM : 1000000000000000000 ≤ M) (l : List UInt8) : ∀ (a k : Nat), l.all isDig = true → a < 10 ^ k → k + l.length ≤ 18 → Lib.parseUintM M a l = .ok (decV a l) := by
  induction l with
  | nil => intro a k _ _ _; rfl
  | cons c l ih =>
    intro a k hd h hk
    simp only [List.all_cons, Bool.and_eq_true, isDig_iff] at hd
    rw [List.length_cons] at hk
    have hp : 10 ^ k ≤ 10 ^ 17 := Nat.pow_le_pow_right (by omega) (by omega)
    generalize h17 : 10 ^ 17 = T at hp
    have hT : T = 100000000000000000 := h17.symm
    have ih := ih (a * 10 + (c.toNat - 48)) (k + 1) hd.2 (by rw [Nat.pow_succ]; omega) (by omega)
    have hc := hd.1
    clear hd h17
    rw [Lib.parseUintM, if_pos hc, if_neg (by omega), if_neg (by omega), ih, decV_cons]
theorem parse_dig {l : List UInt8} (hd : l.all isDig = true) (hn : l ≠ []) (hl : l.length ≤ 18) : Lib.parseIntB 64 l = .ok (decV 0 l : Int) := by
  obtain ⟨c, r, rfl⟩ := List.exists_cons_of_ne_nil hn
  have hc := hd
  simp only [List.all_cons, Bool.and_eq_true, isDig_iff] at hc
  have hm := parseM_dig (2 ^ 64 - 1) (by decide) (c :: r) 0 0 hd (by simp) (by omega)
  have hv := decV_lt (c :: r) 0 0 hd (by simp)
  have hp : 10 ^ (0 + (c :: r).length) ≤ 1000000000000000000 := Nat.le_trans (Nat.pow_le_pow_right (by omega) (by omega : 0 + (c :: r).length ≤ 18)) (Nat.le_of_eq (by rfl))
  have h63 : (2 : Nat) ^ (64 - 1) = 9223372036854775808 := by decide
  rw [Lib.parseIntB_plain 64 c r (by omega) (by omega), Lib.parseUintB, if_neg (by simp), hm, h63]
  show (if 9223372036854775808 ≤ decV 0 (c :: r) then _ else _) = _
  rw [if_neg (by omega)]
def digB (l : List UInt8) (m : Int) : Bool := decide (l ≠ []) && (decide ((l.length : Int) ≤ m) && l.all isDig)
theorem digB_iff {l : List UInt8} {m : Int} : digB l m = true ↔ l ≠ [] ∧ (l.length : Int) ≤ m ∧ l.all isDig = true := by simp [digB]
def zeros6 : List UInt8 := [48, 48, 48, 48, 48, 48]
/-- the six places of a part -/
def sixV (part : List UInt8) : Nat := decV 0 ((part ++ zeros6).take 6)
theorem six_dig {part : List UInt8} (h : part.all isDig = true) : ((part ++ zeros6).take 6).all isDig = true ∧ ((part ++ zeros6).take 6).length = 6 := by
  refine ⟨List.all_eq_true.2 fun c hc => ?_, by simp [zeros6]⟩
  rcases List.mem_append.1 (List.mem_of_mem_take hc) with h' | h'
  · exact List.all_eq_true.1 h c h'
  · simp only [zeros6, List.mem_cons, List.mem_nil_iff, or_false] at h'
    rcases h' with rfl | rfl | rfl | rfl | rfl | rfl <;> decide
theorem six_lt {part : List UInt8} (h : part.all isDig = true) : sixV part < 1000000 := by
  have := decV_lt _ 0 0 (six_dig h).1 (by simp)
  rw [(six_dig h).2] at this
  simpa [sixV] using this
/-- a number's text: below 0, the whole, the part, whether there is a point -/
def numParts (l : List UInt8) : Bool × List UInt8 × List UInt8 × Bool := (Lib.hasPrefix l [45], Lib.cut (Lib.trimPrefix l [45]) [46])
def numOk (l : List UInt8) : Bool := digB (numParts l).2.1 9 && (!(numParts l).2.2.2 || digB (numParts l).2.2.1 6)
def numA (l : List UInt8) : Int := (decV 0 (numParts l).2.1 : Int) * 64 + (sixV (numParts l).2.2.1 : Int) * 64 / 1000000
def numN (l : List UInt8) : Int := if numOk l = true then (if (numParts l).1 = true then -numA l else numA l) else 0
end Go.Proofs.Val
set_option linter.unusedVariables false
set_option linter.unusedSimpArgs false
namespace Go.Proofs.Val
open Go
theorem index_one (c : UInt8) : ∀ (p t : List UInt8), c ∉ p → Lib.index (p ++ c :: t) [c] = p.length
  | [], t, _ => by simp [Lib.index, List.isPrefixOf]
  | d :: p, t, h => by
    have hd : ¬ c = d := fun e => h (by simp [e])
    have ih := index_one c p t (fun e => h (by simp [e]))
    rw [List.cons_append, Lib.index, ih]
    have h1 : ([c].isPrefixOf (d :: (p ++ c :: t))) = false := by simp [List.isPrefixOf, hd]
    rw [h1]
    have h2 : (((p.length : Int)) == -1) = false := beq_eq_false_iff_ne.2 (by omega)
    rw [h2]
    simp
theorem index_not (c : UInt8) : ∀ (p : List UInt8), c ∉ p → Lib.index p [c] = -1
  | [], _ => by simp [Lib.index]
  | d :: p, h => by
    have hd : ¬ c = d := fun e => h (by simp [e])
    have ih := index_not c p (fun e => h (by simp [e]))
    rw [Lib.index, ih]
    have h1 : ([c].isPrefixOf (d :: p)) = false := by simp [List.isPrefixOf, hd]
    rw [h1]; rfl
theorem cut_at_one {c : UInt8} {p : List UInt8} (t : List UInt8) (h : c ∉ p) : Lib.cut (p ++ c :: t) [c] = (p, t, true) := by
  unfold Lib.cut
  rw [index_one c p t h, if_pos (by omega)]
  simp
theorem cut_not {c : UInt8} {p : List UInt8} (h : c ∉ p) : Lib.cut p [c] = (p, [], false) := by
  unfold Lib.cut
  rw [index_not c p h, if_neg (by omega)]
theorem dig_not {c : UInt8} {l : List UInt8} (h : l.all isDig = true) (hc : isDig c = false) : c ∉ l := fun e => by
  have := List.all_eq_true.1 h c e
  rw [hc] at this; cases this
/-! ### the digits of a number -/
theorem dd_dig (u : Nat) : (Lib.decDigits u).all isDig = true := by
  induction u using Nat.strongRecOn with
  | _ u ih =>
    rw [Lib.decDigits]
    split
    · rename_i h
      rw [List.all_cons, List.all_nil, Bool.and_true, isDig_iff, UInt8.toNat_ofNat']
      omega
    · rename_i h
      rw [List.all_append, ih (u / 10) (by omega), List.all_cons, List.all_nil, Bool.and_true, Bool.true_and, isDig_iff, UInt8.toNat_ofNat']
      omega
theorem dd_val (u : Nat) : decV 0 (Lib.decDigits u) = u := by
  induction u using Nat.strongRecOn with
  | _ u ih =>
    rw [Lib.decDigits]
    split
    · rename_i h
      rw [decV_cons, decV_nil, UInt8.toNat_ofNat']
      omega
    · rename_i h
      rw [decV_append, ih (u / 10) (by omega), decV_cons, decV_nil, UInt8.toNat_ofNat']
      omega
theorem dd_ne (u : Nat) : Lib.decDigits u ≠ [] := fun e => by
  have := Lib.decDigits_length u
  rw [e] at this
  have := Lib.nDigits_pos u
  simp at *; omega
theorem dd_len {u k : Nat} (h1 : 1 ≤ k) (h : u < 10 ^ k) : (Lib.decDigits u).length ≤ k := by
  rw [Lib.decDigits_length]
  rcases Nat.lt_or_ge k (Lib.nDigits u) with hk | hk
  · exfalso
    have aux : ∀ (k u : Nat), 1 ≤ k → k < Lib.nDigits u → 10 ^ k ≤ u := by
      intro k
      induction k with
      | zero => intro u h; omega
      | succ k ih =>
        intro u _ hk
        by_cases hu : u < 10
        · rw [Lib.nDigits_small hu] at hk; omega
        · rw [Lib.nDigits_big hu] at hk
          by_cases hk0 : k = 0
          · subst hk0; simp; omega
          · have := ih (u / 10) (by omega) (by omega)
            rw [Nat.pow_succ]
            omega
    have := aux k u h1 hk
    omega
  · exact hk
theorem decV_acc (l : List UInt8) : ∀ a, decV a l = a * 10 ^ l.length + decV 0 l := by
  induction l with
  | nil => intro a; simp [decV]
  | cons c l ih =>
    intro a
    rw [decV_cons, decV_cons, ih, ih (0 * 10 + (c.toNat - 48)), List.length_cons, Nat.pow_succ, Nat.add_mul, Nat.mul_assoc, Nat.mul_comm 10, Nat.zero_mul, Nat.zero_add]
    omega
/-- a number of seven digits, the first one 1: the six behind it -/
theorem dd_seven {r : Nat} (h : r < 1000000) : ∃ s, Lib.decDigits (1000000 + r) = 49 :: s ∧ s.length = 6 ∧ s.all isDig = true ∧ decV 0 s = r := by
  have h1 := dd_len (u := 1000000 + r) (k := 7) (by omega) (by simp; omega)
  have h2 := dd_dig (1000000 + r)
  have h3 := dd_val (1000000 + r)
  have hl : 7 ≤ (Lib.decDigits (1000000 + r)).length := by
    rcases Nat.lt_or_ge (Lib.decDigits (1000000 + r)).length 7 with hlt | hge
    · have := decV_lt _ 0 0 h2 (by simp)
      have h10 : 10 ^ (0 + (Lib.decDigits (1000000 + r)).length) ≤ 10 ^ 6 := Nat.pow_le_pow_right (by omega) (by omega)
      rw [h3] at this
      have h6 : (10 : Nat) ^ 6 = 1000000 := by decide
      generalize 10 ^ (0 + (Lib.decDigits (1000000 + r)).length) = T at h10 this
      omega
    · exact hge
  obtain ⟨c, s, hc⟩ := List.exists_cons_of_ne_nil (dd_ne (1000000 + r))
  rw [hc] at h1 h2 h3 hl ⊢
  rw [List.length_cons] at h1 hl
  rw [List.all_cons, Bool.and_eq_true] at h2
  have hs : s.length = 6 := by omega
  rw [decV_cons, decV_acc, hs] at h3
  have hb := decV_lt s 0 0 h2.2 (by simp)
  rw [hs] at hb
  have hcc := isDig_iff.1 h2.1
  simp at h3 hb
  have hcv : c.toNat = 49 := by omega
  have hc49 : c = 49 := by
    have : c = UInt8.ofNat c.toNat := by simp
    rw [this, hcv]; rfl
  rw [hc49]
  exact ⟨s, rfl, hs, h2.2, by rw [hcv] at h3; omega⟩
/-! ### zeros behind a part -/
theorem trz (s : List UInt8) : ∃ k, s = Lib.trimRightS s [48] ++ List.replicate k 48 ∧ (∀ c, (Lib.trimRightS s [48]).getLast? = some c → c ≠ 48) := by
  have aux : ∀ r : List UInt8, ∃ k, r = List.replicate k 48 ++ r.dropWhile (([48] : List UInt8).contains ·) ∧ (∀ c, (r.dropWhile (([48] : List UInt8).contains ·)).head? = some c → c ≠ 48) := by
    intro r
    induction r with
    | nil => exact ⟨0, by simp, by simp⟩
    | cons c r ih =>
      by_cases h : c = 48
      · subst h
        obtain ⟨k, h1, h2⟩ := ih
        refine ⟨k + 1, ?_, ?_⟩
        · have e : (48 :: r : List UInt8).dropWhile (([48] : List UInt8).contains ·) = r.dropWhile (([48] : List UInt8).contains ·) := by simp [List.dropWhile]
          rw [e, List.replicate_succ, List.cons_append, ← h1]
        · simpa [List.dropWhile] using h2
      · have hh : (([48] : List UInt8).contains c) = false := by simp [h]
        refine ⟨0, by simp [List.dropWhile, h], ?_⟩
        intro d hd
        simp only [List.dropWhile, hh] at hd
        simp at hd
        rw [← hd]; exact h
  obtain ⟨k, h1, h2⟩ := aux s.reverse
  refine ⟨k, ?_, ?_⟩
  · have := congrArg List.reverse h1
    rw [List.reverse_reverse, List.reverse_append, List.reverse_replicate] at this
    exact this
  · intro c hc
    apply h2 c
    unfold Lib.trimRightS at hc
    rw [List.getLast?_reverse] at hc
    exact hc
theorem six_trim {s : List UInt8} (h6 : s.length = 6) : sixV (Lib.trimRightS s [48]) = decV 0 s := by
  obtain ⟨k, h1, _⟩ := trz s
  generalize Lib.trimRightS s [48] = t at h1
  have hk : t.length + k = 6 := by rw [h1] at h6; simpa using h6
  unfold sixV
  congr 1
  rw [h1, List.take_append]
  have e : zeros6 = List.replicate 6 48 := rfl
  rw [e, List.take_replicate, List.take_of_length_le (by omega)]
  congr 2
  omega
/-! ### the text -/
def fracL (r : Nat) : List UInt8 := Lib.trimRightS ((Lib.decDigits (1000000 + r * 15625)).drop 1) [48]
def decL (n : Int) : List UInt8 :=
  Lib.trimSuffix ((if n < 0 then [45] else []) ++ Lib.decDigits (n.natAbs / 64) ++ ([46] ++ fracL (n.natAbs % 64))) [46]
theorem frac_ok {r : Nat} (h : r < 64) : (fracL r).all isDig = true ∧ (fracL r).length ≤ 6 ∧ sixV (fracL r) = r * 15625 := by
  obtain ⟨s, h1, h2, h3, h4⟩ := dd_seven (r := r * 15625) (by omega)
  have e : fracL r = Lib.trimRightS s [48] := by unfold fracL; rw [h1]; rfl
  obtain ⟨k, h5, _⟩ := trz s
  rw [e]
  refine ⟨?_, ?_, by rw [six_trim h2, h4]⟩
  · rw [h5, List.all_append, Bool.and_eq_true] at h3
    exact h3.1
  · rw [h5, List.length_append] at h2
    omega
theorem suffix_snoc (l : List UInt8) (c d : UInt8) : Lib.hasSuffix (l ++ [c]) [d] = decide (c = d) := by
  unfold Lib.hasSuffix
  rw [Bool.eq_iff_iff, List.isSuffixOf_iff_suffix, decide_eq_true_iff]
  constructor
  · rintro ⟨t, ht⟩
    have := congrArg List.getLast? ht
    simp at this
    exact this.symm
  · rintro rfl
    exact ⟨l, rfl⟩
theorem decL_eq (n : Int) : decL n = (if n < 0 then [45] else []) ++ Lib.decDigits (n.natAbs / 64) ++ (if fracL (n.natAbs % 64) = [] then [] else 46 :: fracL (n.natAbs % 64)) := by
  have hf := (frac_ok (r := n.natAbs % 64) (by omega)).1
  unfold decL
  generalize fracL (n.natAbs % 64) = t at hf ⊢
  generalize (if n < 0 then [45] else []) ++ Lib.decDigits (n.natAbs / 64) = p
  by_cases h : t = []
  · rw [if_pos h, h]
    unfold Lib.trimSuffix
    rw [List.append_nil, suffix_snoc, if_pos (by decide)]
    simp
  · rw [if_neg h]
    obtain ⟨t', c, rfl⟩ : ∃ t' c, t = t' ++ [c] := ⟨t.dropLast, t.getLast h, (List.dropLast_concat_getLast h).symm⟩
    have hc : isDig c = true := by simp at hf; exact hf.2
    unfold Lib.trimSuffix
    rw [← List.append_assoc, ← List.append_assoc, suffix_snoc, if_neg]
    · simp
    · rw [decide_eq_true_iff]
      rintro rfl
      cases hc
theorem prefix_neg (l : List UInt8) : Lib.hasPrefix (45 :: l) [45] = true ∧ Lib.trimPrefix (45 :: l) [45] = l := by
  have h : Lib.hasPrefix (45 :: l) [45] = true := by simp [Lib.hasPrefix, List.isPrefixOf]
  exact ⟨h, by unfold Lib.trimPrefix; rw [if_pos h]; rfl⟩
theorem prefix_pos {l r : List UInt8} (h : l.all isDig = true) (hl : l ≠ []) : Lib.hasPrefix (l ++ r) [45] = false ∧ Lib.trimPrefix (l ++ r) [45] = l ++ r := by
  obtain ⟨c, t, rfl⟩ := List.exists_cons_of_ne_nil hl
  have hc : isDig c = true := by simp at h; exact h.1
  have : c ≠ 45 := fun e => by rw [e] at hc; cases hc
  have h2 : Lib.hasPrefix (c :: t ++ r) [45] = false := by simp [Lib.hasPrefix, List.isPrefixOf]; exact fun e => this e.symm
  exact ⟨h2, by unfold Lib.trimPrefix; rw [if_neg (by rw [h2]; simp)]⟩
/-- what a sign, digits, and a part of digits, spell -/
theorem num_text (b : Bool) {w t : List UInt8} (hw : digB w 9 = true) (ht : t = [] ∨ digB t 6 = true) :
    numOk ((if b = true then [45] else []) ++ w ++ (if t = [] then [] else 46 :: t)) = true ∧
    numN ((if b = true then [45] else []) ++ w ++ (if t = [] then [] else 46 :: t)) = (if b = true then -((decV 0 w : Int) * 64 + (sixV t : Int) * 64 / 1000000) else (decV 0 w : Int) * 64 + (sixV t : Int) * 64 / 1000000) := by
  obtain ⟨w1, w2, w3⟩ := digB_iff.1 hw
  have hp : numParts ((if b = true then [45] else []) ++ w ++ (if t = [] then [] else 46 :: t)) = (b, w, t, decide (t ≠ [])) := by
    have hc : Lib.cut (w ++ (if t = [] then [] else 46 :: t)) [46] = (w, t, decide (t ≠ [])) := by
      by_cases h : t = []
      · rw [if_pos h, List.append_nil, cut_not (dig_not w3 (by decide)), h]; rfl
      · rw [if_neg h, cut_at_one _ (dig_not w3 (by decide))]; simp [h]
    unfold numParts
    cases b
    · rw [if_neg (by simp), List.nil_append, (prefix_pos w3 w1).1, (prefix_pos w3 w1).2, hc]
    · rw [if_pos rfl, List.append_assoc, List.singleton_append, (prefix_neg _).1, (prefix_neg _).2, hc]
  have hok : numOk ((if b = true then [45] else []) ++ w ++ (if t = [] then [] else 46 :: t)) = true := by
    unfold numOk
    rw [hp]
    show (digB w 9 && (!(decide (t ≠ [])) || digB t 6)) = true
    rw [hw]
    rcases ht with rfl | ht
    · rfl
    · rw [ht]; simp
  refine ⟨hok, ?_⟩
  unfold numN numA
  rw [hok, if_pos rfl, hp]
theorem decL_read (n : Int) (h1 : -63999999999 ≤ n) (h2 : n ≤ 63999999999) : numOk (decL n) = true ∧ numN (decL n) = n := by
  obtain ⟨f1, f2, f3⟩ := frac_ok (r := n.natAbs % 64) (by omega)
  rw [decL_eq]
  have hw : digB (Lib.decDigits (n.natAbs / 64)) 9 = true := digB_iff.2 ⟨dd_ne _, by have := dd_len (u := n.natAbs / 64) (k := 9) (by omega) (by simp; omega); omega, dd_dig _⟩
  have ht : fracL (n.natAbs % 64) = [] ∨ digB (fracL (n.natAbs % 64)) 6 = true := by
    by_cases h : fracL (n.natAbs % 64) = []
    · exact .inl h
    · exact .inr (digB_iff.2 ⟨h, by omega, f1⟩)
  have := num_text (decide (n < 0)) hw ht
  simp only [decide_eq_true_eq] at this
  refine ⟨this.1, this.2.trans ?_⟩
  rw [dd_val, f3]
  split <;> omega
theorem decL_front (n : Int) : ∃ c t, decL n = c :: t ∧ (c = 45 ∨ isDig c = true) := by
  rw [decL_eq]
  by_cases h : n < 0
  · rw [if_pos h]; exact ⟨45, _, rfl, .inl rfl⟩
  · rw [if_neg h]
    obtain ⟨c, t, hc⟩ := List.exists_cons_of_ne_nil (dd_ne (n.natAbs / 64))
    have hd := dd_dig (n.natAbs / 64)
    rw [hc] at hd ⊢
    rw [List.all_cons, Bool.and_eq_true] at hd
    exact ⟨c, _, rfl, .inr hd.1⟩
theorem decL_in (n : Int) : ∀ c ∈ decL n, c = 45 ∨ c = 46 ∨ isDig c = true := by
  intro c hc
  rw [decL_eq] at hc
  have f1 := (frac_ok (r := n.natAbs % 64) (by omega)).1
  rcases List.mem_append.1 hc with hc | hc
  · rcases List.mem_append.1 hc with hc | hc
    · split at hc
      · simp at hc; exact .inl hc
      · cases hc
    · exact .inr (.inr (List.all_eq_true.1 (dd_dig _) c hc))
  · split at hc
    · cases hc
    · rcases List.mem_cons.1 hc with rfl | hc
      · exact .inr (.inl rfl)
      · exact .inr (.inr (List.all_eq_true.1 f1 c hc))
theorem decL_len (n : Int) (h1 : -63999999999 ≤ n) (h2 : n ≤ 63999999999) : (decL n).length ≤ 17 := by
  rw [decL_eq]
  have f2 := (frac_ok (r := n.natAbs % 64) (by omega)).2.1
  have := dd_len (u := n.natAbs / 64) (k := 9) (by omega) (by simp; omega)
  rw [List.length_append, List.length_append]
  split <;> split <;> simp <;> omega
end Go.Proofs.Val
