/- Digits and what they spell, in plain words (no program in sight); no condition beside those that each theorem states. -/
import Derived.Lib.ParseIntB
import Derived.Lib.ParseIntBCases
import Derived.Lib.SlTrimSet
import Derived.Lib.Strings
import Derived.Lib.IndexMore
import Derived.Lib.ItoaNum
import Derived.Lib.Hide
import Derived.StillTailTactics
import Derived.Deep.MidRow
import Derived.Test.YtolfpgccebdlpaaGreatDoorWWords
import Derived.Test.YtolfpgccebdlpaaGreatDoorProg
import Derived.WalkKit
import Derived.WalkLawsBesides
import Derived.WalkSpells
import Derived.Below
import Derived.Deep.Draws
import Derived.Deep.AppendLies
import Derived.Maps.AppendAt
import Derived.OwnWalk
import Derived.Laws.BytesArg
import Derived.Laws.MakeOwn
import Derived.Laws.OwnMore
import Derived.Deep.OwnRows
import Derived.Laws.Slices
import Derived.KernelRfl
import Derived.RowKit3
import Derived.Deep.LoopGhost
import Derived.Deep.QuietTactic
import Derived.BigQuiet
import Derived.WideLaws
import Derived.Deep.DeepCutAuto
import Derived.Deep.CutBlock
import Derived.Deep.RegionHeld3
import Derived.Laws.Rows
import Derived.Laws.Tables
import Derived.RowKit
import Derived.Outline
set_option linter.unusedVariables false
set_option linter.unusedSimpArgs false
namespace Go.Proofs.Val
open Go
def isDig (c : UInt8) : Bool := decide (48 ≤ c.toNat) && decide (c.toNat ≤ 57)
theorem isDig_iff {c : UInt8} : isDig c = true ↔ 48 ≤ c.toNat ∧ c.toNat ≤ 57 := by simp [isDig]
theorem u8_all {P : UInt8 → Prop} (h : ∀ n : Fin 256, P (UInt8.ofNat n.val)) (c : UInt8) : P c := by
  have := h ⟨c.toNat, c.toNat_lt⟩
  simpa using this
theorem dig_contains (c : UInt8) : ([48, 49, 50, 51, 52, 53, 54, 55, 56, 57] : List UInt8).contains c = isDig c :=
  u8_all (P := fun c => ([48, 49, 50, 51, 52, 53, 54, 55, 56, 57] : List UInt8).contains c = isDig c) (by decide +kernel) c
theorem dropWhile_nil {p : UInt8 → Bool} : ∀ {l : List UInt8}, l.dropWhile p = [] ↔ l.all p = true
  | [] => by simp
  | c :: l => by
    by_cases h : p c = true
    · simp [List.dropWhile, h, dropWhile_nil (l := l)]
    · simp [List.dropWhile, h]
theorem dropWhile_sub {p : UInt8 → Bool} (l : List UInt8) : (l.dropWhile p).all p = true → l.all p = true := fun h => by
  have h2 : (l.dropWhile p).dropWhile p = [] := dropWhile_nil.2 h
  by_cases e : l.dropWhile p = []
  · exact dropWhile_nil.1 e
  · obtain ⟨c, r, hr⟩ := List.exists_cons_of_ne_nil e
    have hc : p c = false := by
      have := List.head_dropWhile_not p (l := l) (by rw [hr]; simp)
      simpa [hr] using this
    rw [hr] at h
    simp [hc] at h
theorem trim_dig_nil (l : List UInt8) : Lib.trimS l [48, 49, 50, 51, 52, 53, 54, 55, 56, 57] = [] ↔ l.all isDig = true := by
  have e : ∀ l : List UInt8, l.dropWhile (([48, 49, 50, 51, 52, 53, 54, 55, 56, 57] : List UInt8).contains ·) = l.dropWhile isDig := fun l => by
    congr 1; funext c; exact dig_contains c
  unfold Lib.trimS Lib.trimLeftS Lib.trimRightS
  rw [e, e, dropWhile_nil, List.all_reverse]
  constructor
  · intro h
    have := dropWhile_sub _ h
    rwa [List.all_reverse] at this
  · intro h
    have : l.reverse.dropWhile isDig = [] := dropWhile_nil.2 (by rw [List.all_reverse]; exact h)
    rw [this]; rfl
def decV (acc : Nat) (l : List UInt8) : Nat := l.foldl (fun a c => a * 10 + (c.toNat - 48)) acc
theorem decV_nil (a : Nat) : decV a [] = a := rfl
theorem decV_cons (a : Nat) (c : UInt8) (l : List UInt8) : decV a (c :: l) = decV (a * 10 + (c.toNat - 48)) l := by unfold decV; rw [List.foldl_cons]
theorem decV_append (a : Nat) (l m : List UInt8) : decV a (l ++ m) = decV (decV a l) m := List.foldl_append
theorem decV_lt : ∀ (l : List UInt8) (a k : Nat), l.all isDig = true → a < 10 ^ k → decV a l < 10 ^ (k + l.length)
  | [], a, k, _, h => by simpa [decV] using h
  | c :: l, a, k, hd, h => by
    simp only [List.all_cons, Bool.and_eq_true, isDig_iff] at hd
    rw [decV_cons]
    have := decV_lt l (a * 10 + (c.toNat - 48)) (k + 1) hd.2 (by rw [Nat.pow_succ]; omega)
    rw [List.length_cons, show k + (l.length + 1) = k + 1 + l.length by omega]
    exact this
theorem parseM_dig (M : Nat) (hM : 1000000000000000000 ≤ M) (l : List UInt8) : ∀ (a k : Nat), l.all isDig = true → a < 10 ^ k → k + l.length ≤ 18 → Lib.parseUintM M a l = .ok (decV a l) := by
  induction l with
  | nil => intro a k _ _ _; rfl
  | cons c l ih =>
    intro a k hd h hk
    simp only [List.all_cons, Bool.and_eq_true, isDig_iff] at hd
    rw [List.length_cons] at hk
    have hp : 10 ^ k ≤ 10 ^ 17 := Nat.pow_le_pow_right (by omega) (by omega)
    generalize h17 : 10 ^ 17 = T at hp
    have hT : T = 100000000000000000 := h17.symm
    have ih := ih (a * 10 + (c.toNat - 48)) (k + 1) hd.2 (by rw [Nat.pow_succ]; omega) (by omega)
    have hc := hd.1
    clear hd h17
    rw [Lib.parseUintM, if_pos hc, if_neg (by omega), if_neg (by omega), ih, decV_cons]
theorem parse_dig {l : List UInt8} (hd : l.all isDig = true) (hn : l ≠ []) (hl : l.length ≤ 18) : Lib.parseIntB 64 l = .ok (decV 0 l : Int) := by
  obtain ⟨c, r, rfl⟩ := List.exists_cons_of_ne_nil hn
  have hc := hd
  simp only [List.all_cons, Bool.and_eq_true, isDig_iff] at hc
  have hm := parseM_dig (2 ^ 64 - 1) (by decide) (c :: r) 0 0 hd (by simp) (by omega)
  have hv := decV_lt (c :: r) 0 0 hd (by simp)
  have hp : 10 ^ (0 + (c :: r).length) ≤ 1000000000000000000 := Nat.le_trans (Nat.pow_le_pow_right (by omega) (by omega : 0 + (c :: r).length ≤ 18)) (Nat.le_of_eq (by rfl))
  have h63 : (2 : Nat) ^ (64 - 1) = 9223372036854775808 := by decide
  rw [Lib.parseIntB_plain 64 c r (by omega) (by omega), Lib.parseUintB, if_neg (by simp), hm, h63]
  show (if 9223372036854775808 ≤ decV 0 (c :: r) then _ else _) = _
  rw [if_neg (by omega)]
def digB (l : List UInt8) (m : Int) : Bool := decide (l ≠ []) && (decide ((l.length : Int) ≤ m) && l.all isDig)
theorem digB_iff {l : List UInt8} {m : Int} : digB l m = true ↔ l ≠ [] ∧ (l.length : Int) ≤ m ∧ l.all isDig = true := by simp [digB]
def zeros6 : List UInt8 := [48, 48, 48, 48, 48, 48]
def sixV (part : List UInt8) : Nat := decV 0 ((part ++ zeros6).take 6)
theorem six_dig {part : List UInt8} (h : part.all isDig = true) : ((part ++ zeros6).take 6).all isDig = true ∧ ((part ++ zeros6).take 6).length = 6 := by
  refine ⟨List.all_eq_true.2 fun c hc => ?_, by simp [zeros6]⟩
  rcases List.mem_append.1 (List.mem_of_mem_take hc) with h' | h'
  · exact List.all_eq_true.1 h c h'
  · simp only [zeros6, List.mem_cons, List.mem_nil_iff, or_false] at h'
    rcases h' with rfl | rfl | rfl | rfl | rfl | rfl <;> decide
theorem six_lt {part : List UInt8} (h : part.all isDig = true) : sixV part < 1000000 := by
  have := decV_lt _ 0 0 (six_dig h).1 (by simp)
  rw [(six_dig h).2] at this
  simpa [sixV] using this
def numParts (l : List UInt8) : Bool × List UInt8 × List UInt8 × Bool := (Lib.hasPrefix l [45], Lib.cut (Lib.trimPrefix l [45]) [46])
def numOk (l : List UInt8) : Bool := digB (numParts l).2.1 9 && (!(numParts l).2.2.2 || digB (numParts l).2.2.1 6)
def numA (l : List UInt8) : Int := (decV 0 (numParts l).2.1 : Int) * 64 + (sixV (numParts l).2.2.1 : Int) * 64 / 1000000
def numN (l : List UInt8) : Int := if numOk l = true then (if (numParts l).1 = true then -numA l else numA l) else 0
end Go.Proofs.Val
set_option linter.unusedVariables false
set_option linter.unusedSimpArgs false
namespace Go.Proofs.Val
open Go
theorem index_one (c : UInt8) : ∀ (p t : List UInt8), c ∉ p → Lib.index (p ++ c :: t) [c] = p.length
  | [], t, _ => by simp [Lib.index, List.isPrefixOf]
  | d :: p, t, h => by
    have hd : ¬ c = d := fun e => h (by simp [e])
    have ih := index_one c p t (fun e => h (by simp [e]))
    rw [List.cons_append, Lib.index, ih]
    have h1 : ([c].isPrefixOf (d :: (p ++ c :: t))) = false := by simp [List.isPrefixOf, hd]
    rw [h1]
    have h2 : (((p.length : Int)) == -1) = false := beq_eq_false_iff_ne.2 (by omega)
    rw [h2]
    simp
theorem dd_dig (u : Nat) : (Lib.decDigits u).all isDig = true := by
  induction u using Nat.strongRecOn with
  | _ u ih =>
    rw [Lib.decDigits]
    split
    · rename_i h
      rw [List.all_cons, List.all_nil, Bool.and_true, isDig_iff, UInt8.toNat_ofNat']
      omega
    · rename_i h
      rw [List.all_append, ih (u / 10) (by omega), List.all_cons, List.all_nil, Bool.and_true, Bool.true_and, isDig_iff, UInt8.toNat_ofNat']
      omega
theorem dd_val (u : Nat) : decV 0 (Lib.decDigits u) = u := by
  induction u using Nat.strongRecOn with
  | _ u ih =>
    rw [Lib.decDigits]
    split
    · rename_i h
      rw [decV_cons, decV_nil, UInt8.toNat_ofNat']
      omega
    · rename_i h
      rw [decV_append, ih (u / 10) (by omega), decV_cons, decV_nil, UInt8.toNat_ofNat']
      omega
theorem dd_ne (u : Nat) : Lib.decDigits u ≠ [] := fun e => by
  have := Lib.decDigits_length u
  rw [e] at this
  have := Lib.nDigits_pos u
  simp at *; omega
theorem dd_len {u k : Nat} (h1 : 1 ≤ k) (h : u < 10 ^ k) : (Lib.decDigits u).length ≤ k := by
  rw [Lib.decDigits_length]
  rcases Nat.lt_or_ge k (Lib.nDigits u) with hk | hk
  · exfalso
    have aux : ∀ (k u : Nat), 1 ≤ k → k < Lib.nDigits u → 10 ^ k ≤ u := by
      intro k
      induction k with
      | zero => intro u h; omega
      | succ k ih =>
        intro u _ hk
        by_cases hu : u < 10
        · rw [Lib.nDigits_small hu] at hk; omega
        · rw [Lib.nDigits_big hu] at hk
          by_cases hk0 : k = 0
          · subst hk0; simp; omega
          · have := ih (u / 10) (by omega) (by omega)
            rw [Nat.pow_succ]
            omega
    have := aux k u h1 hk
    omega
  · exact hk
theorem decV_acc (l : List UInt8) : ∀ a, decV a l = a * 10 ^ l.length + decV 0 l := by
  induction l with
  | nil => intro a; simp [decV]
  | cons c l ih =>
    intro a
    rw [decV_cons, decV_cons, ih, ih (0 * 10 + (c.toNat - 48)), List.length_cons, Nat.pow_succ, Nat.add_mul, Nat.mul_assoc, Nat.mul_comm 10, Nat.zero_mul, Nat.zero_add]
    omega
theorem dd_seven {r : Nat} (h : r < 1000000) : ∃ s, Lib.decDigits (1000000 + r) = 49 :: s ∧ s.length = 6 ∧ s.all isDig = true ∧ decV 0 s = r := by
  have h1 := dd_len (u := 1000000 + r) (k := 7) (by omega) (by simp; omega)
  have h2 := dd_dig (1000000 + r)
  have h3 := dd_val (1000000 + r)
  have hl : 7 ≤ (Lib.decDigits (1000000 + r)).length := by
    rcases Nat.lt_or_ge (Lib.decDigits (1000000 + r)).length 7 with hlt | hge
    · have := decV_lt _ 0 0 h2 (by simp)
      have h10 : 10 ^ (0 + (Lib.decDigits (1000000 + r)).length) ≤ 10 ^ 6 := Nat.pow_le_pow_right (by omega) (by omega)
      rw [h3] at this
      have h6 : (10 : Nat) ^ 6 = 1000000 := by decide
      generalize 10 ^ (0 + (Lib.decDigits (1000000 + r)).length) = T at h10 this
      omega
    · exact hge
  obtain ⟨c, s, hc⟩ := List.exists_cons_of_ne_nil (dd_ne (1000000 + r))
  rw [hc] at h1 h2 h3 hl ⊢
  rw [List.length_cons] at h1 hl
  rw [List.all_cons, Bool.and_eq_true] at h2
  have hs : s.length = 6 := by omega
  rw [decV_cons, decV_acc, hs] at h3
  have hb := decV_lt s 0 0 h2.2 (by simp)
  rw [hs] at hb
  have hcc := isDig_iff.1 h2.1
  simp at h3 hb
  have hcv : c.toNat = 49 := by omega
  have hc49 : c = 49 := by
    have : c = UInt8.ofNat c.toNat := by simp
    rw [this, hcv]; rfl
  rw [hc49]
  exact ⟨s, rfl, hs, h2.2, by rw [hcv] at h3; omega⟩
theorem trz (s : List UInt8) : ∃ k, s = Lib.trimRightS s [48] ++ List.replicate k 48 ∧ (∀ c, (Lib.trimRightS s [48]).getLast? = some c → c ≠ 48) := by
  have aux : ∀ r : List UInt8, ∃ k, r = List.replicate k 48 ++ r.dropWhile (([48] : List UInt8).contains ·) ∧ (∀ c, (r.dropWhile (([48] : List UInt8).contains ·)).head? = some c → c ≠ 48) := by
    intro r
    induction r with
    | nil => exact ⟨0, by simp, by simp⟩
    | cons c r ih =>
      by_cases h : c = 48
      · subst h
        obtain ⟨k, h1, h2⟩ := ih
        refine ⟨k + 1, ?_, ?_⟩
        · have e : (48 :: r : List UInt8).dropWhile (([48] : List UInt8).contains ·) = r.dropWhile (([48] : List UInt8).contains ·) := by simp [List.dropWhile]
          rw [e, List.replicate_succ, List.cons_append, ← h1]
        · simpa [List.dropWhile] using h2
      · have hh : (([48] : List UInt8).contains c) = false := by simp [h]
        refine ⟨0, by simp [List.dropWhile, h], ?_⟩
        intro d hd
        simp only [List.dropWhile, hh] at hd
        simp at hd
        rw [← hd]; exact h
  obtain ⟨k, h1, h2⟩ := aux s.reverse
  refine ⟨k, ?_, ?_⟩
  · have := congrArg List.reverse h1
    rw [List.reverse_reverse, List.reverse_append, List.reverse_replicate] at this
    exact this
  · intro c hc
    apply h2 c
    unfold Lib.trimRightS at hc
    rw [List.getLast?_reverse] at hc
    exact hc
theorem six_trim {s : List UInt8} (h6 : s.length = 6) : sixV (Lib.trimRightS s [48]) = decV 0 s := by
  obtain ⟨k, h1, _⟩ := trz s
  generalize Lib.trimRightS s [48] = t at h1
  have hk : t.length + k = 6 := by rw [h1] at h6; simpa using h6
  unfold sixV
  congr 1
  rw [h1, List.take_append]
  have e : zeros6 = List.replicate 6 48 := rfl
  rw [e, List.take_replicate, List.take_of_length_le (by omega)]
  congr 2
  omega
def fracL (r : Nat) : List UInt8 := Lib.trimRightS ((Lib.decDigits (1000000 + r * 15625)).drop 1) [48]
def decL (n : Int) : List UInt8 :=
  Lib.trimSuffix ((if n < 0 then [45] else []) ++ Lib.decDigits (n.natAbs / 64) ++ ([46] ++ fracL (n.natAbs % 64))) [46]
theorem frac_ok {r : Nat} (h : r < 64) : (fracL r).all isDig = true ∧ (fracL r).length ≤ 6 ∧ sixV (fracL r) = r * 15625 := by
  obtain ⟨s, h1, h2, h3, h4⟩ := dd_seven (r := r * 15625) (by omega)
  have e : fracL r = Lib.trimRightS s [48] := by unfold fracL; rw [h1]; rfl
  obtain ⟨k, h5, _⟩ := trz s
  rw [e]
  refine ⟨?_, ?_, by rw [six_trim h2, h4]⟩
  · rw [h5, List.all_append, Bool.and_eq_true] at h3
    exact h3.1
  · rw [h5, List.length_append] at h2
    omega
theorem suffix_snoc (l : List UInt8) (c d : UInt8) : Lib.hasSuffix (l ++ [c]) [d] = decide (c = d) := by
  unfold Lib.hasSuffix
  rw [Bool.eq_iff_iff, List.isSuffixOf_iff_suffix, decide_eq_true_iff]
  constructor
  · rintro ⟨t, ht⟩
    have := congrArg List.getLast? ht
    simp at this
    exact this.symm
  · rintro rfl
    exact ⟨l, rfl⟩
theorem decL_eq (n : Int) : decL n = (if n < 0 then [45] else []) ++ Lib.decDigits (n.natAbs / 64) ++ (if fracL (n.natAbs % 64) = [] then [] else 46 :: fracL (n.natAbs % 64)) := by
  have hf := (frac_ok (r := n.natAbs % 64) (by omega)).1
  unfold decL
  generalize fracL (n.natAbs % 64) = t at hf ⊢
  generalize (if n < 0 then [45] else []) ++ Lib.decDigits (n.natAbs / 64) = p
  by_cases h : t = []
  · rw [if_pos h, h]
    unfold Lib.trimSuffix
    rw [List.append_nil, suffix_snoc, if_pos (by decide)]
    simp
  · rw [if_neg h]
    obtain ⟨t', c, rfl⟩ : ∃ t' c, t = t' ++ [c] := ⟨t.dropLast, t.getLast h, (List.dropLast_concat_getLast h).symm⟩
    have hc : isDig c = true := by simp at hf; exact hf.2
    unfold Lib.trimSuffix
    rw [← List.append_assoc, ← List.append_assoc, suffix_snoc, if_neg]
    · simp
    · rw [decide_eq_true_iff]
      rintro rfl
      cases hc
theorem decL_len (n : Int) (h1 : -63999999999 ≤ n) (h2 : n ≤ 63999999999) : (decL n).length ≤ 17 := by
  rw [decL_eq]
  have f2 := (frac_ok (r := n.natAbs % 64) (by omega)).2.1
  have := dd_len (u := n.natAbs / 64) (k := 9) (by omega) (by simp; omega)
  rw [List.length_append, List.length_append]
  split <;> split <;> simp <;> omega
end Go.Proofs.Val
set_option linter.unusedVariables false
set_option linter.unusedSimpArgs false
namespace Go.Proofs
open Go.RowKit
abbrev bs (l : List UInt8) : Value := .string ⟨l.toArray⟩
def z89 : List Value := [.string ByteArray.empty, .bool false, .bool false, .bool false, .bool false, .bool false, .bool false, .slice none 0 0, .int .i64 0, .int .i64 0]
def srt (name : List UInt8) (a b c d e f : Bool) (w : Value) (k n : Int) : List Value := [.string ⟨name.toArray⟩, .bool a, .bool b, .bool c, .bool d, .bool e, .bool f, w, .int .i64 k, .int .i64 n]
def nilS : Value := .slice none 0 0
def rowP (b n : Nat) : Value := .slice (some ⟨b, 0, none⟩) n n
def sortsL (nw nh : List UInt8) (m p o : List (List Value)) (b1 b2 b3 b4 : Nat) : List (List Value) :=
  [z89, srt [100, 105, 115, 112, 108, 97, 121] false false false false false false (rowP b1 4) 5 1,
   srt nw true true true false false false nilS 1 0, srt nh true true true false false false nilS 1 0] ++ m ++ p ++ o ++
  [srt [99, 111, 108, 111, 114] false false false false true false nilS 4 0,
   srt [98, 97, 99, 107, 103, 114, 111, 117, 110, 100, 45, 99, 111, 108, 111, 114] false false false false true false nilS 4 16777215,
   srt [102, 111, 110, 116, 45, 115, 105, 122, 101] false true false false false false nilS 2 1024,
   srt [116, 101, 120, 116, 45, 97, 108, 105, 103, 110] false false false false false false (rowP b2 3) 5 0,
   srt [102, 108, 101, 120, 45, 103, 114, 111, 119] false false false false false true nilS 6 0,
   srt [102, 108, 101, 120, 45, 115, 104, 114, 105, 110, 107] false false false false false true nilS 6 64,
   srt [102, 108, 101, 120, 45, 100, 105, 114, 101, 99, 116, 105, 111, 110] false false false false false false (rowP b3 2) 5 0,
   srt [106, 117, 115, 116, 105, 102, 121, 45, 99, 111, 110, 116, 101, 110, 116] false false false false false false (rowP b4 4) 5 0,
   srt [111, 114, 100, 101, 114] false false false true false true nilS 6 0,
   srt [108, 101, 102, 116] false true false true false false nilS 2 0,
   srt [116, 111, 112] false true false true false false nilS 2 0]
def arrOf (l : List (List Value)) : Array Value := l.flatten.toArray
def z95 : Array Value := arrOf (List.replicate 27 z89)
theorem zero95 (w : World) : (zeroValue 191).run Tryz.prog w = .ok (.agg z95) w := by kernel_rfl
def four : List (List Value) := [z89, z89, z89, z89]
theorem built95 (b1 b2 b3 b4 : Nat) : Tryz.prog.built 191 [(1, .agg #[.string { data := #[100, 105, 115, 112, 108, 97, 121] }, .bool false, .bool false, .bool false, .bool false, .bool false, .bool false, .slice (some ⟨b1, 0, none⟩) 4 4, .int .i64 5, .int .i64 1]),
   (2, .agg #[.string { data := #[] }, .bool true, .bool true, .bool true, .bool false, .bool false, .bool false, .slice none 0 0, .int .i64 1, .int .i64 0]),
   (3, .agg #[.string { data := #[] }, .bool true, .bool true, .bool true, .bool false, .bool false, .bool false, .slice none 0 0, .int .i64 1, .int .i64 0]),
   (16, .agg (srt [99, 111, 108, 111, 114] false false false false true false nilS 4 0).toArray),
   (17, .agg (srt [98, 97, 99, 107, 103, 114, 111, 117, 110, 100, 45, 99, 111, 108, 111, 114] false false false false true false nilS 4 16777215).toArray),
   (18, .agg (srt [102, 111, 110, 116, 45, 115, 105, 122, 101] false true false false false false nilS 2 1024).toArray),
   (19, .agg (srt [116, 101, 120, 116, 45, 97, 108, 105, 103, 110] false false false false false false (rowP b2 3) 5 0).toArray),
   (20, .agg (srt [102, 108, 101, 120, 45, 103, 114, 111, 119] false false false false false true nilS 6 0).toArray),
   (21, .agg (srt [102, 108, 101, 120, 45, 115, 104, 114, 105, 110, 107] false false false false false true nilS 6 64).toArray),
   (22, .agg (srt [102, 108, 101, 120, 45, 100, 105, 114, 101, 99, 116, 105, 111, 110] false false false false false false (rowP b3 2) 5 0).toArray),
   (23, .agg (srt [106, 117, 115, 116, 105, 102, 121, 45, 99, 111, 110, 116, 101, 110, 116] false false false false false false (rowP b4 4) 5 0).toArray),
   (24, .agg (srt [111, 114, 100, 101, 114] false false false true false true nilS 6 0).toArray),
   (25, .agg (srt [108, 101, 102, 116] false true false true false false nilS 2 0).toArray),
   (26, .agg (srt [116, 111, 112] false true false true false false nilS 2 0).toArray)] = some (arrOf (sortsL [] [] four four four b1 b2 b3 b4)) := by kernel_rfl
theorem wpList_build_to {P : Program} {ops : Array Oper} {rest : List Oper} {o : Oper} {a : Act} {w : World} {Q : Exit → Act → World → Prop} (hg : o.guard = none) (t : TypeId) (parts : Array (Nat × Operand)) (ho : o.op = .build t parts) {cells : Array Value} {l : List (Nat × Value)}
    (hc : P.built t l = some cells) (hp : (parts.toList.map fun (i, x) => (i, a.eval x)) = l) (h : wpList P ops Q rest (a.put o.dst (.agg cells)) w) : wpList P ops Q (o :: rest) a w := by
  have e : (parts.map fun (i, x) => (i, a.eval x)).toList = parts.toList.map fun (i, x) => (i, a.eval x) := Array.toList_map
  exact wpList_build hg t parts ho (by rw [e, hp, hc]; rfl) (by rw [e, hp, hc]; exact h)
theorem heap_alloc_at (W : World) (o : Obj) {g : Nat} (h : g = W.heap.size) : (W.alloc o).heap[g]? = some o := by subst h; exact heap_alloc_new W o
theorem sidesC (a b : ByteArray) (w : World) (ha : a.size ≤ 1000) (hb : b.size ≤ 1000) :
    Calls Tryz.prog 181 #[.string a, .string b] w fun e w' => e = .returned (.agg #[.string (a ++ { data := #[45, 116, 111, 112] } ++ b), .string (a ++ { data := #[45, 114, 105, 103, 104, 116] } ++ b), .string (a ++ { data := #[45, 98, 111, 116, 116, 111, 109] } ++ b), .string (a ++ { data := #[45, 108, 101, 102, 116] } ++ b)]) ∧ Below w.heap.size w w' := by
  go_enter Tryz.func181, Tryz.ntmps181
  go_wp2
  exact bodyPost_ret (v := .agg #[.string (a ++ { data := #[45, 116, 111, 112] } ++ b), .string (a ++ { data := #[45, 114, 105, 103, 104, 116] } ++ b), .string (a ++ { data := #[45, 98, 111, 116, 116, 111, 109] } ++ b), .string (a ++ { data := #[45, 108, 101, 102, 116] } ++ b)]) (by simp [results, Tryz.results181, go_sem]) rfl ⟨rfl, (Below.refl _ _).alloc (Nat.le_refl _) _⟩
theorem size_arrOf0 (b1 b2 b3 b4 : Nat) : (arrOf (sortsL [] [] four four four b1 b2 b3 b4)).size = 270 := by kernel_rfl
theorem all_arrOf0 (b1 b2 b3 b4 : Nat) : (arrOf (sortsL [] [] four four four b1 b2 b3 b4)).all (·.oneCell') = true := by kernel_rfl
theorem size_z95 : z95.size = 270 := by kernel_rfl
theorem info95 : (Tryz.prog.info? 191).map (·.size) = some 270 := by kernel_rfl
abbrev S0 : Value := .string { data := #[] }
abbrev FF : Value := .bool false
abbrev TT : Value := .bool true
def WordRow' (w : World) (b t : Nat) (l : List (List UInt8)) : Prop := w.heap[b]? = some (.cells (l.map fun s => Value.string ⟨s.toArray⟩).toArray t (0, 0))
structure SortWords (w wc : World) (b1 b2 b3 b4 : Nat) : Prop where
  r1 : WordRow' wc b1 9 [[98, 108, 111, 99, 107], [105, 110, 108, 105, 110, 101], [102, 108, 101, 120], [110, 111, 110, 101]]
  r2 : WordRow' wc b2 9 [[108, 101, 102, 116], [99, 101, 110, 116, 101, 114], [114, 105, 103, 104, 116]]
  r3 : WordRow' wc b3 9 [[114, 111, 119], [99, 111, 108, 117, 109, 110]]
  r4 : WordRow' wc b4 9 [[115, 116, 97, 114, 116], [99, 101, 110, 116, 101, 114], [101, 110, 100], [98, 101, 116, 119, 101, 101, 110]]
  m1 : w.heap.size ≤ b1
  m2 : w.heap.size ≤ b2
  m3 : w.heap.size ≤ b3
  m4 : w.heap.size ≤ b4
def nmMargin : List (List UInt8) := [[109, 97, 114, 103, 105, 110, 45, 116, 111, 112], [109, 97, 114, 103, 105, 110, 45, 114, 105, 103, 104, 116], [109, 97, 114, 103, 105, 110, 45, 98, 111, 116, 116, 111, 109], [109, 97, 114, 103, 105, 110, 45, 108, 101, 102, 116]]
def nmPadding : List (List UInt8) := [[112, 97, 100, 100, 105, 110, 103, 45, 116, 111, 112], [112, 97, 100, 100, 105, 110, 103, 45, 114, 105, 103, 104, 116], [112, 97, 100, 100, 105, 110, 103, 45, 98, 111, 116, 116, 111, 109], [112, 97, 100, 100, 105, 110, 103, 45, 108, 101, 102, 116]]
def nmBorder : List (List UInt8) := [[98, 111, 114, 100, 101, 114, 45, 116, 111, 112, 45, 119, 105, 100, 116, 104], [98, 111, 114, 100, 101, 114, 45, 114, 105, 103, 104, 116, 45, 119, 105, 100, 116, 104], [98, 111, 114, 100, 101, 114, 45, 98, 111, 116, 116, 111, 109, 45, 119, 105, 100, 116, 104], [98, 111, 114, 100, 101, 114, 45, 108, 101, 102, 116, 45, 119, 105, 100, 116, 104]]
theorem sides_margin (w : World) : Calls Tryz.prog 181 #[.string { data := #[109, 97, 114, 103, 105, 110] }, .string { data := #[] }] w fun e w' => e = .returned (.agg #[.string { data := #[109, 97, 114, 103, 105, 110, 45, 116, 111, 112] }, .string { data := #[109, 97, 114, 103, 105, 110, 45, 114, 105, 103, 104, 116] }, .string { data := #[109, 97, 114, 103, 105, 110, 45, 98, 111, 116, 116, 111, 109] }, .string { data := #[109, 97, 114, 103, 105, 110, 45, 108, 101, 102, 116] }]) ∧ Below w.heap.size w w' := by
  refine (sidesC _ _ w (by decide) (by decide)).mono ?_
  rintro e w' ⟨rfl, hb⟩
  exact ⟨by kernel_rfl, hb⟩
theorem sides_padding (w : World) : Calls Tryz.prog 181 #[.string { data := #[112, 97, 100, 100, 105, 110, 103] }, .string { data := #[] }] w fun e w' => e = .returned (.agg #[.string { data := #[112, 97, 100, 100, 105, 110, 103, 45, 116, 111, 112] }, .string { data := #[112, 97, 100, 100, 105, 110, 103, 45, 114, 105, 103, 104, 116] }, .string { data := #[112, 97, 100, 100, 105, 110, 103, 45, 98, 111, 116, 116, 111, 109] }, .string { data := #[112, 97, 100, 100, 105, 110, 103, 45, 108, 101, 102, 116] }]) ∧ Below w.heap.size w w' := by
  refine (sidesC _ _ w (by decide) (by decide)).mono ?_
  rintro e w' ⟨rfl, hb⟩
  exact ⟨by kernel_rfl, hb⟩
theorem sides_border (w : World) : Calls Tryz.prog 181 #[.string { data := #[98, 111, 114, 100, 101, 114] }, .string { data := #[45, 119, 105, 100, 116, 104] }] w fun e w' => e = .returned (.agg #[.string { data := #[98, 111, 114, 100, 101, 114, 45, 116, 111, 112, 45, 119, 105, 100, 116, 104] }, .string { data := #[98, 111, 114, 100, 101, 114, 45, 114, 105, 103, 104, 116, 45, 119, 105, 100, 116, 104] }, .string { data := #[98, 111, 114, 100, 101, 114, 45, 98, 111, 116, 116, 111, 109, 45, 119, 105, 100, 116, 104] }, .string { data := #[98, 111, 114, 100, 101, 114, 45, 108, 101, 102, 116, 45, 119, 105, 100, 116, 104] }]) ∧ Below w.heap.size w w' := by
  refine (sidesC _ _ w (by decide) (by decide)).mono ?_
  rintro e w' ⟨rfl, hb⟩
  exact ⟨by kernel_rfl, hb⟩
def sideS (a b : Bool) (nm : List (List UInt8)) : List (List Value) := nm.map fun s => srt s a true false b false false nilS 2 0
def upto (k : Nat) (l : List (List Value)) : List (List Value) := l.take k ++ four.drop k
def SA (k : Nat) (b1 b2 b3 b4 : Nat) : Array Value := arrOf (sortsL [119, 105, 100, 116, 104] [104, 101, 105, 103, 104, 116] (upto k (sideS true true nmMargin)) (upto k (sideS false false nmPadding)) (upto k (sideS false false nmBorder)) b1 b2 b3 b4)
structure SortsMid2 (w wc : World) (g0 g1 g4 g5 g6 g7 : Nat) (tab : Array Value) (b1 b2 b3 b4 : Nat) : Prop where
  h0 : wc.heap[g0]? = some (.cells z95 191 (0, 0))
  h1 : wc.heap[g1]? = some (.cells #[.int .i64 2, .int .i64 0] 109 (0, 0))
  h4 : wc.heap[g4]? = some (.cells tab 191 (0, 0))
  h5 : WordRow' wc g5 74 nmMargin
  h6 : WordRow' wc g6 74 nmPadding
  h7 : WordRow' wc g7 74 nmBorder
  n0 : w.heap.size ≤ g0
  n4 : w.heap.size ≤ g4
  e04 : g0 ≠ g4
  e14 : g1 ≠ g4
  e54 : g5 ≠ g4
  e64 : g6 ≠ g4
  e74 : g7 ≠ g4
  q : b1 ≠ g0 ∧ b2 ≠ g0 ∧ b3 ≠ g0 ∧ b4 ≠ g0
  words : SortWords w wc b1 b2 b3 b4
  below : Below w.heap.size w wc
structure SortsMid (w wc : World) (g0 g1 g4 b1 b2 b3 b4 : Nat) : Prop where
  h0 : wc.heap[g0]? = some (.cells z95 191 (0, 0))
  h1 : wc.heap[g1]? = some (.cells #[.int .i64 2, .int .i64 0] 109 (0, 0))
  h4 : wc.heap[g4]? = some (.cells (arrOf (sortsL [] [] four four four b1 b2 b3 b4)) 191 (0, 0))
  n1 : w.heap.size ≤ g0
  n2 : g0 < g1
  n3 : g1 < g4
  words : SortWords w wc b1 b2 b3 b4
  o1 : b1 < g4
  o2 : b2 < g4
  o3 : b3 < g4
  o4 : b4 < g4
  q : b1 ≠ g0 ∧ b2 ≠ g0 ∧ b3 ≠ g0 ∧ b4 ≠ g0
  below : Below w.heap.size w wc
def set10 (cur : Array Value) (o : Nat) (v0 v1 v2 v3 v4 v5 v6 v7 v8 v9 : Value) : Array Value :=
  (((((((((cur.setIfInBounds o v0).setIfInBounds (o + 1) v1).setIfInBounds (o + 2) v2).setIfInBounds (o + 3) v3).setIfInBounds (o + 4) v4).setIfInBounds (o + 5) v5).setIfInBounds (o + 6) v6).setIfInBounds (o + 7) v7).setIfInBounds (o + 8) v8).setIfInBounds (o + 9) v9
theorem size_set10 (cur : Array Value) (o : Nat) (v0 v1 v2 v3 v4 v5 v6 v7 v8 v9 : Value) : (set10 cur o v0 v1 v2 v3 v4 v5 v6 v7 v8 v9).size = cur.size := by simp [set10]
def put10 (W : World) (g o : Nat) (v0 v1 v2 v3 v4 v5 v6 v7 v8 v9 : Value) : World :=
  ((((((((((W.setCell ⟨g, o, none⟩ v0).setCell ⟨g, o + 1, none⟩ v1).setCell ⟨g, o + 2, none⟩ v2).setCell ⟨g, o + 3, none⟩ v3).setCell ⟨g, o + 4, none⟩ v4).setCell ⟨g, o + 5, none⟩ v5).setCell ⟨g, o + 6, none⟩ v6).setCell ⟨g, o + 7, none⟩ v7).setCell ⟨g, o + 8, none⟩ v8).setCell ⟨g, o + 9, none⟩ v9).drew
theorem put10_row {W : World} {g : Nat} {cur : Array Value} {t : TypeId} (h : W.heap[g]? = some (.cells cur t (0, 0))) (o : Nat) (v0 v1 v2 v3 v4 v5 v6 v7 v8 v9 : Value) :
    (put10 W g o v0 v1 v2 v3 v4 v5 v6 v7 v8 v9).heap[g]? = some (.cells (set10 cur o v0 v1 v2 v3 v4 v5 v6 v7 v8 v9) t (0, 0)) := by
  unfold put10 set10
  rw [heap_drew]
  iterate 10 apply heap_setCell_same
  exact h
theorem put10_other (W : World) (g o : Nat) (v0 v1 v2 v3 v4 v5 v6 v7 v8 v9 : Value) (i : Nat) (hi : i ≠ g) : (put10 W g o v0 v1 v2 v3 v4 v5 v6 v7 v8 v9).heap[i]? = W.heap[i]? := by
  unfold put10
  rw [heap_drew]
  iterate 10 rw [heap_setCell_other _ _ _ _ hi]
theorem put10_below {B : Nat} {w W : World} (h : Below B w W) (g o : Nat) (hg : B ≤ g) (v0 v1 v2 v3 v4 v5 v6 v7 v8 v9 : Value) : Below B w (put10 W g o v0 v1 v2 v3 v4 v5 v6 v7 v8 v9) :=
  ((((((((((h.setCell (by exact hg) _).setCell (by exact hg) _).setCell (by exact hg) _).setCell (by exact hg) _).setCell (by exact hg) _).setCell (by exact hg) _).setCell (by exact hg) _).setCell (by exact hg) _).setCell (by exact hg) _).setCell (by exact hg) _).drew
theorem SortsMid2.put {w W : World} {g0 g1 g4 g5 g6 g7 : Nat} {tab : Array Value} {b1 b2 b3 b4 : Nat} (h : SortsMid2 w W g0 g1 g4 g5 g6 g7 tab b1 b2 b3 b4) (hw : b1 ≠ g4 ∧ b2 ≠ g4 ∧ b3 ≠ g4 ∧ b4 ≠ g4) (o : Nat) (v0 v1 v2 v3 v4 v5 v6 v7 v8 v9 : Value) :
    SortsMid2 w (put10 W g4 o v0 v1 v2 v3 v4 v5 v6 v7 v8 v9) g0 g1 g4 g5 g6 g7 (set10 tab o v0 v1 v2 v3 v4 v5 v6 v7 v8 v9) b1 b2 b3 b4 where
  h0 := (put10_other W g4 o v0 v1 v2 v3 v4 v5 v6 v7 v8 v9 g0 h.e04).trans h.h0
  h1 := (put10_other W g4 o v0 v1 v2 v3 v4 v5 v6 v7 v8 v9 g1 h.e14).trans h.h1
  h4 := put10_row h.h4 o v0 v1 v2 v3 v4 v5 v6 v7 v8 v9
  h5 := (put10_other W g4 o v0 v1 v2 v3 v4 v5 v6 v7 v8 v9 g5 h.e54).trans h.h5
  h6 := (put10_other W g4 o v0 v1 v2 v3 v4 v5 v6 v7 v8 v9 g6 h.e64).trans h.h6
  h7 := (put10_other W g4 o v0 v1 v2 v3 v4 v5 v6 v7 v8 v9 g7 h.e74).trans h.h7
  n0 := h.n0
  n4 := h.n4
  e04 := h.e04
  e14 := h.e14
  e54 := h.e54
  e64 := h.e64
  e74 := h.e74
  q := h.q
  words := ⟨(put10_other W g4 o v0 v1 v2 v3 v4 v5 v6 v7 v8 v9 b1 hw.1).trans h.words.r1, (put10_other W g4 o v0 v1 v2 v3 v4 v5 v6 v7 v8 v9 b2 hw.2.1).trans h.words.r2, (put10_other W g4 o v0 v1 v2 v3 v4 v5 v6 v7 v8 v9 b3 hw.2.2.1).trans h.words.r3, (put10_other W g4 o v0 v1 v2 v3 v4 v5 v6 v7 v8 v9 b4 hw.2.2.2).trans h.words.r4, h.words.m1, h.words.m2, h.words.m3, h.words.m4⟩
  below := put10_below h.below g4 o h.n4 v0 v1 v2 v3 v4 v5 v6 v7 v8 v9
theorem cell_ex {W : World} {g : Nat} {cur : Array Value} {t : TypeId} (h : W.heap[g]? = some (.cells cur t (0, 0))) (o : Nat) (ho : o < cur.size) : ∃ v, W.cell? ⟨g, o, none⟩ = some v :=
  ⟨cur[o], by rw [cell_of_row W g o cur t _ h, Array.getElem?_eq_getElem ho]⟩
theorem size_SA (k b1 b2 b3 b4 : Nat) (hk : k ≤ 4) : (SA k b1 b2 b3 b4).size = 270 := by
  obtain rfl | rfl | rfl | rfl | rfl : k = 0 ∨ k = 1 ∨ k = 2 ∨ k = 3 ∨ k = 4 := by omega
  all_goals kernel_rfl
theorem all_SA4 (b1 b2 b3 b4 : Nat) : (SA 4 b1 b2 b3 b4).all (·.oneCell') = true := by kernel_rfl
theorem SortWords.setRow {w W : World} {b1 b2 b3 b4 g : Nat} (h : SortWords w W b1 b2 b3 b4) (q : b1 ≠ g ∧ b2 ≠ g ∧ b3 ≠ g ∧ b4 ≠ g) (cs : Array Value) : SortWords w (W.setRow g cs) b1 b2 b3 b4 :=
  ⟨(setRow_other W g b1 cs q.1).trans h.r1, (setRow_other W g b2 cs q.2.1).trans h.r2, (setRow_other W g b3 cs q.2.2.1).trans h.r3, (setRow_other W g b4 cs q.2.2.2).trans h.r4, h.m1, h.m2, h.m3, h.m4⟩
theorem below_setRow {B : Nat} {w W : World} (h : Below B w W) (g : Nat) (cs : Array Value) (hg : B ≤ g) : Below B w (W.setRow g cs) :=
  ⟨h.os, h.tape, h.output, by rw [setRow_size]; exact h.size, fun i hi => (setRow_other W g i cs (by omega)).trans (h.block i hi)⟩
def nmAt (l : List (List UInt8)) (k : Nat) : ByteArray := ⟨(l.getD k []).toArray⟩
theorem wordAt {W : World} {g t : Nat} {l : List (List UInt8)} (h : WordRow' W g t l) (k : Nat) (hk : k < l.length) : W.cell? ⟨g, k, none⟩ = some (.string (nmAt l k)) := by
  rw [cell_of_row W g k _ _ _ h]
  simp [nmAt, List.getD, hk]
theorem SA_step (k b1 b2 b3 b4 : Nat) (hk : k < 4) :
    set10 (set10 (set10 (SA k b1 b2 b3 b4) ((4 + k) * 10) (.string (nmAt nmMargin k)) TT TT FF TT FF FF (.slice none 0 0) (.int .i64 2) (.int .i64 0)) ((8 + k) * 10) (.string (nmAt nmPadding k)) FF TT FF FF FF FF (.slice none 0 0) (.int .i64 2) (.int .i64 0)) ((12 + k) * 10) (.string (nmAt nmBorder k)) FF TT FF FF FF FF (.slice none 0 0) (.int .i64 2) (.int .i64 0) = SA (k + 1) b1 b2 b3 b4 := by
  obtain rfl | rfl | rfl | rfl : k = 0 ∨ k = 1 ∨ k = 2 ∨ k = 3 := by omega
  all_goals kernel_rfl
theorem alloc_get (w : World) (o : Obj) (i : Nat) : (w.alloc o).heap[i]? = if i = w.heap.size then some o else w.heap[i]? := Array.getElem?_push
theorem alloc_size (w : World) (o : Obj) : (w.alloc o).heap.size = w.heap.size + 1 := Array.size_push _
set_option maxHeartbeats 4000000 in
theorem sortsMid_new (w : World) : SortsMid w ((((((((((w.alloc (Obj.cells z95 191)).alloc (Obj.cells #[.int .i64 2, .int .i64 0] 109)).alloc (Obj.cells #[.string { data := #[] }, .bool true, .bool true, .bool true, .bool false, .bool false, .bool false, .slice none 0 0, .int .i64 1, .int .i64 0] 163)).alloc (Obj.cells #[.int .i64 6, .int .i64 64] 109)).alloc
    (Obj.cells #[.string { data := #[98, 108, 111, 99, 107] }, .string { data := #[105, 110, 108, 105, 110, 101] }, .string { data := #[102, 108, 101, 120] }, .string { data := #[110, 111, 110, 101] }] 9)).alloc (Obj.cells #[.string { data := #[108, 101, 102, 116] }, .string { data := #[99, 101, 110, 116, 101, 114] }, .string { data := #[114, 105, 103, 104, 116] }] 9)).alloc (Obj.cells #[.string { data := #[114, 111, 119] }, .string { data := #[99, 111, 108, 117, 109, 110] }] 9)).alloc (Obj.cells #[.string { data := #[115, 116, 97, 114, 116] }, .string { data := #[99, 101, 110, 116, 101, 114] }, .string { data := #[101, 110, 100] }, .string { data := #[98, 101, 116, 119, 101, 101, 110] }] 9)).alloc (Obj.cells z95 191)).setRow (w.heap.size + 1 + 1 + 1 + 1 + 1 + 1 + 1 + 1) (arrOf (sortsL [] [] four four four (w.heap.size + 1 + 1 + 1 + 1) (w.heap.size + 1 + 1 + 1 + 1 + 1) (w.heap.size + 1 + 1 + 1 + 1 + 1 + 1) (w.heap.size + 1 + 1 + 1 + 1 + 1 + 1 + 1))))
    w.heap.size (w.heap.size + 1) (w.heap.size + 1 + 1 + 1 + 1 + 1 + 1 + 1 + 1) (w.heap.size + 1 + 1 + 1 + 1) (w.heap.size + 1 + 1 + 1 + 1 + 1) (w.heap.size + 1 + 1 + 1 + 1 + 1 + 1) (w.heap.size + 1 + 1 + 1 + 1 + 1 + 1 + 1) where
  h0 := by rw [setRow_other _ _ _ _ (by omega)]; simp only [alloc_get, alloc_size]; (repeat' (first | omega | (exact absurd trivial (by assumption)) | split | rfl))
  h1 := by rw [setRow_other _ _ _ _ (by omega)]; simp only [alloc_get, alloc_size]; (repeat' (first | omega | (exact absurd trivial (by assumption)) | split | rfl))
  h4 := setRow_heap _ _ z95 _ 191 (0, 0) (by simp only [alloc_get, alloc_size]; (repeat' (first | omega | (exact absurd trivial (by assumption)) | split | rfl)))
  n1 := Nat.le_refl _
  n2 := by omega
  n3 := by omega
  words := ⟨by unfold WordRow'; rw [setRow_other _ _ _ _ (by omega)]; simp only [alloc_get, alloc_size]; (repeat' (first | omega | (exact absurd trivial (by assumption)) | split | rfl)),
    by unfold WordRow'; rw [setRow_other _ _ _ _ (by omega)]; simp only [alloc_get, alloc_size]; (repeat' (first | omega | (exact absurd trivial (by assumption)) | split | rfl)),
    by unfold WordRow'; rw [setRow_other _ _ _ _ (by omega)]; simp only [alloc_get, alloc_size]; (repeat' (first | omega | (exact absurd trivial (by assumption)) | split | rfl)),
    by unfold WordRow'; rw [setRow_other _ _ _ _ (by omega)]; simp only [alloc_get, alloc_size]; (repeat' (first | omega | (exact absurd trivial (by assumption)) | split | rfl)),
    by omega, by omega, by omega, by omega⟩
  o1 := by omega
  o2 := by omega
  o3 := by omega
  o4 := by omega
  q := by omega
  below := by
    refine below_setRow ?_ _ _ (by omega)
    iterate 9 refine Below.alloc ?_ (by first | (simp only [alloc_size]; omega) | omega) _
    exact Below.refl _ _
theorem lt_get {w : World} {i : Nat} {o : Obj} (h : w.heap[i]? = some o) : i < w.heap.size := (Array.getElem?_eq_some_iff.1 h).1
theorem setc_size (W : World) (a : Addr) (v : Value) : (W.setCell a v).heap.size = W.heap.size := by simp
theorem SA0_eq (b1 b2 b3 b4 : Nat) : ((arrOf (sortsL [] [] four four four b1 b2 b3 b4)).setIfInBounds 20 (.string { data := #[119, 105, 100, 116, 104] })).setIfInBounds 30 (.string { data := #[104, 101, 105, 103, 104, 116] }) = SA 0 b1 b2 b3 b4 := by kernel_rfl
set_option maxHeartbeats 4000000 in
theorem sortsMid2_new {w wc w1 w2 w3 : World} {g0 g1 g4 b1 b2 b3 b4 : Nat} (hm : SortsMid w wc g0 g1 g4 b1 b2 b3 b4)
    (hb1 : Below ((wc.setCell ⟨g4, 20, none⟩ (.string { data := #[119, 105, 100, 116, 104] })).setCell ⟨g4, 30, none⟩ (.string { data := #[104, 101, 105, 103, 104, 116] })).heap.size ((wc.setCell ⟨g4, 20, none⟩ (.string { data := #[119, 105, 100, 116, 104] })).setCell ⟨g4, 30, none⟩ (.string { data := #[104, 101, 105, 103, 104, 116] })) w1)
    (hb2 : Below w1.heap.size w1 w2) (hb3 : Below w2.heap.size w2 w3) :
    SortsMid2 w (((w3.alloc (Obj.cells #[.string { data := #[109, 97, 114, 103, 105, 110, 45, 116, 111, 112] }, .string { data := #[109, 97, 114, 103, 105, 110, 45, 114, 105, 103, 104, 116] }, .string { data := #[109, 97, 114, 103, 105, 110, 45, 98, 111, 116, 116, 111, 109] }, .string { data := #[109, 97, 114, 103, 105, 110, 45, 108, 101, 102, 116] }] 74)).alloc (Obj.cells #[.string { data := #[112, 97, 100, 100, 105, 110, 103, 45, 116, 111, 112] }, .string { data := #[112, 97, 100, 100, 105, 110, 103, 45, 114, 105, 103, 104, 116] }, .string { data := #[112, 97, 100, 100, 105, 110, 103, 45, 98, 111, 116, 116, 111, 109] }, .string { data := #[112, 97, 100, 100, 105, 110, 103, 45, 108, 101, 102, 116] }] 74)).alloc (Obj.cells #[.string { data := #[98, 111, 114, 100, 101, 114, 45, 116, 111, 112, 45, 119, 105, 100, 116, 104] }, .string { data := #[98, 111, 114, 100, 101, 114, 45, 114, 105, 103, 104, 116, 45, 119, 105, 100, 116, 104] }, .string { data := #[98, 111, 114, 100, 101, 114, 45, 98, 111, 116, 116, 111, 109, 45, 119, 105, 100, 116, 104] }, .string { data := #[98, 111, 114, 100, 101, 114, 45, 108, 101, 102, 116, 45, 119, 105, 100, 116, 104] }] 74)) g0 g1 g4 w3.heap.size (w3.heap.size + 1) (w3.heap.size + 1 + 1) (SA 0 b1 b2 b3 b4) b1 b2 b3 b4 := by
  have s1 := hb1.size
  rw [setc_size, setc_size] at s1
  have s2 := hb2.size
  have s3 := hb3.size
  have key : ∀ i, i < wc.heap.size → (((w3.alloc (Obj.cells #[.string { data := #[109, 97, 114, 103, 105, 110, 45, 116, 111, 112] }, .string { data := #[109, 97, 114, 103, 105, 110, 45, 114, 105, 103, 104, 116] }, .string { data := #[109, 97, 114, 103, 105, 110, 45, 98, 111, 116, 116, 111, 109] }, .string { data := #[109, 97, 114, 103, 105, 110, 45, 108, 101, 102, 116] }] 74)).alloc (Obj.cells #[.string { data := #[112, 97, 100, 100, 105, 110, 103, 45, 116, 111, 112] }, .string { data := #[112, 97, 100, 100, 105, 110, 103, 45, 114, 105, 103, 104, 116] }, .string { data := #[112, 97, 100, 100, 105, 110, 103, 45, 98, 111, 116, 116, 111, 109] }, .string { data := #[112, 97, 100, 100, 105, 110, 103, 45, 108, 101, 102, 116] }] 74)).alloc (Obj.cells #[.string { data := #[98, 111, 114, 100, 101, 114, 45, 116, 111, 112, 45, 119, 105, 100, 116, 104] }, .string { data := #[98, 111, 114, 100, 101, 114, 45, 114, 105, 103, 104, 116, 45, 119, 105, 100, 116, 104] }, .string { data := #[98, 111, 114, 100, 101, 114, 45, 98, 111, 116, 116, 111, 109, 45, 119, 105, 100, 116, 104] }, .string { data := #[98, 111, 114, 100, 101, 114, 45, 108, 101, 102, 116, 45, 119, 105, 100, 116, 104] }] 74)).heap[i]? = ((wc.setCell ⟨g4, 20, none⟩ (.string { data := #[119, 105, 100, 116, 104] })).setCell ⟨g4, 30, none⟩ (.string { data := #[104, 101, 105, 103, 104, 116] })).heap[i]? := fun i hi => by
    simp only [alloc_get, alloc_size]
    rw [if_neg (by omega), if_neg (by omega), if_neg (by omega), hb3.block i (by omega), hb2.block i (by omega), hb1.block i (by rw [setc_size, setc_size]; exact hi)]
  have key2 : ∀ i, i < wc.heap.size → i ≠ g4 → (((w3.alloc (Obj.cells #[.string { data := #[109, 97, 114, 103, 105, 110, 45, 116, 111, 112] }, .string { data := #[109, 97, 114, 103, 105, 110, 45, 114, 105, 103, 104, 116] }, .string { data := #[109, 97, 114, 103, 105, 110, 45, 98, 111, 116, 116, 111, 109] }, .string { data := #[109, 97, 114, 103, 105, 110, 45, 108, 101, 102, 116] }] 74)).alloc (Obj.cells #[.string { data := #[112, 97, 100, 100, 105, 110, 103, 45, 116, 111, 112] }, .string { data := #[112, 97, 100, 100, 105, 110, 103, 45, 114, 105, 103, 104, 116] }, .string { data := #[112, 97, 100, 100, 105, 110, 103, 45, 98, 111, 116, 116, 111, 109] }, .string { data := #[112, 97, 100, 100, 105, 110, 103, 45, 108, 101, 102, 116] }] 74)).alloc (Obj.cells #[.string { data := #[98, 111, 114, 100, 101, 114, 45, 116, 111, 112, 45, 119, 105, 100, 116, 104] }, .string { data := #[98, 111, 114, 100, 101, 114, 45, 114, 105, 103, 104, 116, 45, 119, 105, 100, 116, 104] }, .string { data := #[98, 111, 114, 100, 101, 114, 45, 98, 111, 116, 116, 111, 109, 45, 119, 105, 100, 116, 104] }, .string { data := #[98, 111, 114, 100, 101, 114, 45, 108, 101, 102, 116, 45, 119, 105, 100, 116, 104] }] 74)).heap[i]? = wc.heap[i]? := fun i hi hn => by
    rw [key i hi, heap_setCell_other _ _ _ _ hn, heap_setCell_other _ _ _ _ hn]
  have l0 := lt_get hm.h0
  have l1 := lt_get hm.h1
  have l4 := lt_get hm.h4
  have n1 := hm.n1
  have n2 := hm.n2
  have n3 := hm.n3
  have o1 := hm.o1
  have o2 := hm.o2
  have o3 := hm.o3
  have o4 := hm.o4
  have m1 := hm.words.m1
  have m2 := hm.words.m2
  have m3 := hm.words.m3
  have m4 := hm.words.m4
  have q := hm.q
  refine { h0 := (key2 g0 l0 (by omega)).trans hm.h0, h1 := (key2 g1 l1 (by omega)).trans hm.h1, h4 := ?_, h5 := ?_, h6 := ?_, h7 := ?_, n0 := n1, n4 := by omega, e04 := by omega, e14 := by omega, e54 := by omega, e64 := by omega, e74 := by omega, q := q, words := ?_, below := ?_ }
  · rw [key g4 l4, heap_setCell_same _ _ _ _ 191 _ (heap_setCell_same _ _ _ _ 191 _ hm.h4), SA0_eq]
  · unfold WordRow'; simp only [alloc_get, alloc_size]; (repeat' (first | omega | (exact absurd trivial (by assumption)) | split | rfl))
  · unfold WordRow'; simp only [alloc_get, alloc_size]; (repeat' (first | omega | (exact absurd trivial (by assumption)) | split | rfl))
  · unfold WordRow'; simp only [alloc_get, alloc_size]; (repeat' (first | omega | (exact absurd trivial (by assumption)) | split | rfl))
  · exact ⟨(key2 b1 (by omega) (by omega)).trans hm.words.r1, (key2 b2 (by omega) (by omega)).trans hm.words.r2, (key2 b3 (by omega) (by omega)).trans hm.words.r3, (key2 b4 (by omega) (by omega)).trans hm.words.r4, m1, m2, m3, m4⟩
  · have hbs := hm.below.size
    have p1 : Below w.heap.size w ((wc.setCell ⟨g4, 20, none⟩ (.string { data := #[119, 105, 100, 116, 104] })).setCell ⟨g4, 30, none⟩ (.string { data := #[104, 101, 105, 103, 104, 116] })) := (hm.below.setCell (show w.heap.size ≤ g4 by omega) _).setCell (show w.heap.size ≤ g4 by omega) _
    have p2 := p1.trans (hb1.mono (by rw [setc_size, setc_size]; omega))
    have p3 := p2.trans (hb2.mono (by omega))
    have p4 := p3.trans (hb3.mono (by omega))
    refine ((p4.alloc (by omega) _).alloc (by rw [alloc_size]; omega) _).alloc (by rw [alloc_size, alloc_size]; omega) _
end Go.Proofs
