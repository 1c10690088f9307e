/- Plain laws of lists: what scan's functions compute, as machines over bytes; no condition beside those that each theorem states. -/
import Derived.Test.YtmfhhlgjbjbnhaaGreatDoorVaF
import Derived.Test.YtmfhhlgjbjbnhaaGreatDoorHV2
import Derived.Test.YtmfhhlgjbjbnhaaGreatDoorHV3
import Derived.Test.YtmfhhlgjbjbnhaaGreatDoorPVb
import Derived.Test.YtmfhhlgjbjbnhaaGreatDoorHV5
import Derived.Test.YtmfhhlgjbjbnhaaGreatDoorHV6
import Derived.Test.YtmfhhlgjbjbnhaaGreatDoorHV4
set_option linter.unusedVariables false
set_option linter.unusedSimpArgs false
namespace Go.Proofs.Scn
open Go.Lib
abbrev bl : List UInt8 := [32, 9, 10, 13]
abbrev isB (c : UInt8) : Bool := bl.contains c
/-! ### Trim -/
def trimL (l : List UInt8) : List UInt8 := Lib.trimS l bl
theorem trimV_data (s : ByteArray) : (trimV s).data.toList = trimL s.data.toList := by simp [trimV, trimL]
theorem dw_cons_yes {p : UInt8 → Bool} {c : UInt8} {l : List UInt8} (h : p c = true) : (c :: l).dropWhile p = l.dropWhile p := by simp [List.dropWhile, h]
theorem dw_cons_no {p : UInt8 → Bool} {c : UInt8} {l : List UInt8} (h : p c = false) : (c :: l).dropWhile p = c :: l := by simp [List.dropWhile, h]
theorem dw_nil {p : UInt8 → Bool} : ∀ {l : List UInt8}, l.dropWhile p = [] ↔ ∀ c ∈ l, p c = true
  | [] => by simp
  | c :: t => by
    cases h : p c with
    | true =>
      rw [dw_cons_yes h, dw_nil]
      simp [h]
    | false =>
      rw [dw_cons_no h]
      simp [h]
/-- the blanks at the end are cut off first -/
theorem right_snoc_yes {l : List UInt8} {c : UInt8} (h : isB c = true) : Lib.trimRightS (l ++ [c]) bl = Lib.trimRightS l bl := by
  unfold Lib.trimRightS
  rw [List.reverse_append]
  show (List.dropWhile _ (c :: l.reverse)).reverse = _
  rw [dw_cons_yes h]
theorem right_snoc_no {l : List UInt8} {c : UInt8} (h : isB c = false) : Lib.trimRightS (l ++ [c]) bl = l ++ [c] := by
  unfold Lib.trimRightS
  rw [List.reverse_append]
  show (List.dropWhile _ (c :: l.reverse)).reverse = _
  rw [dw_cons_no h]
  simp
theorem right_cons {l : List UInt8} {c : UInt8} (h : Lib.trimRightS l bl ≠ []) : Lib.trimRightS (c :: l) bl = c :: Lib.trimRightS l bl := by
  unfold Lib.trimRightS at h ⊢
  rw [List.reverse_cons]
  have h2 : (l.reverse.dropWhile fun x => bl.contains x) ≠ [] := fun e => h (by rw [e]; rfl)
  rw [List.dropWhile_append]
  cases hd : (l.reverse.dropWhile fun x => bl.contains x) with
  | nil => exact absurd hd h2
  | cons a t => simp
theorem right_nil {l : List UInt8} (h : ∀ c ∈ l, isB c = true) : Lib.trimRightS l bl = [] := by
  unfold Lib.trimRightS
  rw [List.reverse_eq_nil_iff, dw_nil]
  intro c hc
  exact h c (List.mem_reverse.1 hc)
theorem right_none {l : List UInt8} (h : Lib.trimRightS l bl = []) : ∀ c ∈ l, isB c = true := by
  unfold Lib.trimRightS at h
  rw [List.reverse_eq_nil_iff, dw_nil] at h
  intro c hc
  exact h c (List.mem_reverse.2 hc)
theorem left_all {l : List UInt8} (h : ∀ c ∈ l, isB c = true) : Lib.trimLeftS l bl = [] := by
  unfold Lib.trimLeftS
  rw [dw_nil]
  exact h
theorem trim_cons {c : UInt8} {l : List UInt8} (h : isB c = true) : trimL (c :: l) = trimL l := by
  unfold trimL Lib.trimS
  by_cases e : Lib.trimRightS l bl = []
  · rw [e, right_nil (l := c :: l)]
    intro x hx
    rcases List.mem_cons.1 hx with rfl | hx
    · exact h
    · exact right_none e x hx
  · rw [right_cons e]
    unfold Lib.trimLeftS
    exact dw_cons_yes h
theorem trim_snoc {c : UInt8} {l : List UInt8} (h : isB c = true) : trimL (l ++ [c]) = trimL l := by
  unfold trimL Lib.trimS
  rw [right_snoc_yes h]
/-- no blank at either end -/
def tidy (l : List UInt8) : Prop := (∀ c, l.head? = some c → isB c = false) ∧ (∀ c, l.getLast? = some c → isB c = false)
theorem trim_tidy {l : List UInt8} (h : tidy l) : trimL l = l := by
  unfold trimL Lib.trimS
  have e : Lib.trimRightS l bl = l := by
    rcases List.eq_nil_or_concat l with rfl | ⟨t, c, rfl⟩
    · rfl
    · rw [List.concat_eq_append] at h ⊢
      exact right_snoc_no (h.2 c (by simp))
  rw [e]
  cases l with
  | nil => rfl
  | cons c t => exact dw_cons_no (h.1 c rfl)
theorem trim_is_tidy (l : List UInt8) : tidy (trimL l) := by
  have hh : ∀ (p : UInt8 → Bool) (l : List UInt8) c, (l.dropWhile p).head? = some c → p c = false := fun p l c hc => by
    have := List.head?_dropWhile_not p l
    rw [hc] at this
    simpa using this
  constructor
  · intro c hc
    exact hh _ _ c hc
  · intro c hc
    have : ∀ (l : List UInt8), (∀ c, l.getLast? = some c → isB c = false) → ∀ c, (Lib.trimLeftS l bl).getLast? = some c → isB c = false := fun l hl c hc => by
      unfold Lib.trimLeftS at hc
      obtain ⟨t, ht⟩ := List.dropWhile_suffix (l := l) (fun x => bl.contains x)
      refine hl c ?_
      rw [← ht, List.getLast?_append, hc]
      rfl
    refine this _ ?_ c hc
    intro c hc
    unfold Lib.trimRightS at hc
    rw [List.getLast?_reverse] at hc
    exact hh _ _ c hc
theorem trim_trim (l : List UInt8) : trimL (trimL l) = trimL l := trim_tidy (trim_is_tidy l)
/-! ### Lower -/
theorem lowB_lowB (c : UInt8) : lowB (lowB c) = lowB c := by
  by_cases h : 65 ≤ c.toNat ∧ c.toNat ≤ 90
  · have h2 := lowB_yes h.1 h.2
    exact lowB_no (by omega)
  · rw [lowB_no h, lowB_no h]
theorem lowV_data (s : ByteArray) : (lowV s).data.toList = s.data.toList.map lowB := by simp [lowV]
theorem ba_ext {s t : ByteArray} (h : s.data.toList = t.data.toList) : s = t := by
  cases s; cases t
  simp at h
  rw [h]
theorem lowV_lowV (s : ByteArray) : lowV (lowV s) = lowV s := by
  refine ba_ext ?_
  rw [lowV_data, lowV_data, List.map_map]
  refine List.map_congr_left fun c _ => lowB_lowB c
def ba (l : List UInt8) : ByteArray := ⟨l.toArray⟩
theorem ba_data (l : List UInt8) : (ba l).data.toList = l := by simp [ba]
theorem data_ba (s : ByteArray) : ba s.data.toList = s := by simp [ba]
theorem trimV_ba (s : ByteArray) : trimV s = ba (trimL s.data.toList) := rfl
end Go.Proofs.Scn
set_option linter.unusedVariables false
set_option linter.unusedSimpArgs false
namespace Go.Proofs.YtmfhhlgjbjbnhaaGreatDoor.Pure
open Go.RowKit Go.Proofs.YtmfhhlgjbjbnhaaGreatDoor.HV Go.Proofs.YtmfhhlgjbjbnhaaGreatDoorW.PrintWords Go.Proofs.YtmfhhlgjbjbnhaaGreatDoorW.PrintLast Go.Proofs.Scn
theorem w64 {n : Int} (h1 : -9223372036854775808 ≤ n) (h2 : n ≤ 9223372036854775807) : wrap64 n = n := by unfold wrap64; omega
theorem w64s (i : Nat) (h : i < 1000000) : wrap64 ((i : Int) + 1) = ((i + 1 : Nat) : Int) := by rw [w64 (by omega) (by omega)]; omega
theorem w64t (i : Nat) (h : i < 1000000) : wrap64 ((i : Int) + 2) = ((i + 2 : Nat) : Int) := by rw [w64 (by omega) (by omega)]; omega
theorem _root_.Go.Proofs.YtmfhhlgjbjbnhaaGreatDoorW.PrintWords.Ev.eq {α : Type} {g : Nat → Option α} {a b : α} (h : Ev g a) (e : a = b) : Ev g b := e ▸ h
theorem toL (s : ByteArray) : s.toList = s.data.toList := Lib.toList_data s
theorem sz (s : ByteArray) : s.size = s.data.toList.length := Lib.size_eq s
theorem toL_inj {s t : ByteArray} (h : s.toList = t.toList) : s = t := ba_ext (by rw [← toL, ← toL, h])
/-- what stands from a place on -/
theorem drop_at {s : ByteArray} {i : Nat} {c : UInt8} {t : List UInt8} (h : s.data.toList.drop i = c :: t) : i < s.size ∧ bt s (i : Int) = (c.toNat : Int) ∧ s.data.toList.drop (i + 1) = t := by
  have hl : i < s.data.toList.length := by
    apply Nat.lt_of_not_le
    intro hh
    rw [List.drop_eq_nil_of_le hh] at h
    cases h
  have h2 : i < s.size := by rw [sz]; exact hl
  have h3 : s.data.toList[i] = c ∧ s.data.toList.drop (i + 1) = t := by
    rw [List.drop_eq_getElem_cons hl] at h
    exact List.cons.inj h
  refine ⟨h2, ?_, h3.2⟩
  unfold bt
  rw [dif_pos (by rw [Int.toNat_natCast]; exact h2)]
  congr 2
  rw [← h3.1]
  simp [ByteArray.getElem_eq_getElem_data]
theorem drop_end {s : ByteArray} {i : Nat} (h : s.data.toList.drop i = []) : s.size ≤ i := by
  rw [sz]
  exact List.drop_eq_nil_iff.1 h
theorem ext_data (s : ByteArray) (a b : Nat) : (s.extract a b).data.toList = (s.data.toList.drop a).take (b - a) := by
  rw [ByteArray.data_extract, Array.toList_extract]
theorem ext_to (s : ByteArray) (a : Nat) : (s.extract a s.size).data.toList = s.data.toList.drop a := by
  rw [ext_data, List.take_of_length_le]
  rw [List.length_drop, ← sz]
  exact Nat.le_refl _
theorem byte_inj {c d : UInt8} : ((c.toNat : Int) = (d.toNat : Int)) ↔ c = d := by
  constructor
  · intro h
    exact UInt8.toNat_inj.1 (by omega)
  · rintro rfl; rfl
/-! ### Blank -/
theorem rBlank (c : UInt8) : scrimref07_Blank.f (c.toNat : Int) = some (isB c) := by
  have h : ((List.range 256).all fun n => decide (scrimref07_Blank.f (n : Int) = some (isB (UInt8.ofNat n)))) = true := by kernel_rfl
  have h2 := List.all_eq_true.1 h c.toNat (List.mem_range.2 c.toNat_lt)
  have h3 := of_decide_eq_true h2
  rw [h3]
  simp
/-! ### Trim -/
theorem rTrim : ∀ (n : Nat) (s : ByteArray), s.size ≤ n → n < 1000000 → Ev (fun k => scrimref07_Trim.f k s) (trimV s)
  | n, s, hn, hm => by
    cases hL : s.data.toList with
    | nil =>
      have e : s.toList = [] := by rw [toL, hL]
      refine Ev.step (f := fun k => scrimref07_Trim.j0 k s false) (fun k => by rw [scrimref07_Trim.f, if_pos e]) ?_
      refine Ev.step (f := fun k => some s) (fun k => by rw [scrimref07_Trim.j0, if_neg (by decide), if_pos e]) ?_
      refine (Ev.now s).eq ?_
      rw [trimV_ba, hL, ← data_ba s, hL]
      rfl
    | cons c t =>
      have e : ¬ s.toList = [] := by rw [toL, hL]; simp
      obtain ⟨h0, hb, ht⟩ := drop_at (s := s) (i := 0) (c := c) (t := t) (by rw [List.drop_zero, hL])
      have hb0 : bt s 0 = (c.toNat : Int) := hb
      have hsz : s.size = t.length + 1 := by rw [sz, hL]; rfl
      refine Ev.step (f := fun k => (scrimref07_Blank.f (bt s 0)).bind fun t134 => scrimref07_Trim.j0 k s t134) (fun k => by rw [scrimref07_Trim.f, if_neg e, if_pos (by omega)]) ?_
      simp only [hb0, rBlank, Option.bind_some]
      cases hc : isB c with
      | true =>
        cases n with
        | zero => omega
        | succ n =>
          have hx : (s.extract 1 s.size).data.toList = t := by rw [ext_to]; exact ht
          refine Ev.step (f := fun k => (scrimref07_Trim.f k (s.extract 1 s.size)).bind fun t135 => some t135) (fun k => by rw [scrimref07_Trim.j0, if_pos rfl, if_pos (by omega)]) ?_
          refine Ev.bind (rTrim n (s.extract 1 s.size) (by rw [sz, hx]; omega) (by omega)) ?_
          refine (Ev.now _).eq ?_
          rw [trimV_ba, trimV_ba, hx, hL, trim_cons hc]
      | false =>
        have w1 : wrap64 ((s.size : Int) - 1) = ((t.length : Nat) : Int) := by rw [w64 (by omega) (by omega)]; omega
        obtain ⟨u, d, hu⟩ : ∃ u d, s.data.toList = u ++ [d] := ⟨(c :: t).dropLast, (c :: t).getLast (by simp), by rw [hL, List.dropLast_concat_getLast]⟩
        have hul : u.length = t.length := by
          have := congrArg List.length (hL.symm.trans hu)
          simp at this
          omega
        obtain ⟨h1, hb1, _⟩ := drop_at (s := s) (i := t.length) (c := d) (t := []) (by rw [hu, ← hul, List.drop_left])
        refine Ev.step (f := fun k => (scrimref07_Blank.f (bt s (t.length : Int))).bind fun t136 => (if t136 = true then (if ((t.length : Nat) : Int) ≤ (s.size : Int) then ((scrimref07_Trim.f k (s.extract 0 ((t.length : Nat) : Int).toNat)).bind fun t137 => (some t137)) else (none)) else (some s)))
          (fun k => by rw [scrimref07_Trim.j0, if_neg (by decide), if_neg e, w1, if_pos (by omega), if_pos (by omega)]) ?_
        simp only [hb1, rBlank, Option.bind_some]
        cases hd : isB d with
        | true =>
          cases n with
          | zero => omega
          | succ n =>
            have hx : (s.extract 0 t.length).data.toList = u := by rw [ext_data, hu, List.drop_zero, ← hul, Nat.sub_zero, List.take_left]
            simp only [if_true, if_pos (show ((t.length : Nat) : Int) ≤ (s.size : Int) by omega), Int.toNat_natCast]
            refine Ev.bind (rTrim n (s.extract 0 t.length) (by rw [sz, hx]; omega) (by omega)) ?_
            refine (Ev.now _).eq ?_
            rw [trimV_ba, trimV_ba, hx, hu, trim_snoc hd]
        | false =>
          simp only [Bool.false_eq_true, if_false]
          refine (Ev.now s).eq ?_
          rw [trimV_ba, trim_tidy, data_ba]
          constructor
          · intro x hx
            rw [hL] at hx
            simp at hx
            rw [← hx]
            exact hc
          · intro x hx
            rw [hu] at hx
            simp at hx
            rw [← hx]
            exact hd
/-! ### Lower -/
theorem low_num (c : UInt8) : ((65 ≤ (c.toNat : Int) ∧ (c.toNat : Int) ≤ 90) → (((c.toNat : Int) + 32) % 256) = ((lowB c).toNat : Int)) ∧ (¬ (65 ≤ (c.toNat : Int) ∧ (c.toNat : Int) ≤ 90) → (c.toNat : Int) = ((lowB c).toNat : Int)) := by
  have h : ((List.range 256).all fun n => (if 65 ≤ n ∧ n ≤ 90 then ((((n : Int) + 32) % 256) == ((lowB (UInt8.ofNat n)).toNat : Int)) else ((n : Int) == ((lowB (UInt8.ofNat n)).toNat : Int)))) = true := by kernel_rfl
  have h2 := List.all_eq_true.1 h c.toNat (List.mem_range.2 c.toNat_lt)
  rw [show UInt8.ofNat c.toNat = c by simp] at h2
  constructor
  · intro hc
    rw [if_pos (by omega)] at h2
    exact beq_iff_eq.1 h2
  · intro hc
    rw [if_neg (by omega)] at h2
    exact beq_iff_eq.1 h2
def num (c : UInt8) : Int := (c.toNat : Int)
theorem str_num (l : List UInt8) : strOfNums (l.map num) = ba l := by
  unfold strOfNums ba
  congr 2
  rw [List.map_map]
  conv => rhs; rw [← List.map_id l]
  apply List.map_congr_left
  intro c _
  simp [num]
theorem rLower_l (s : ByteArray) (hs : s.size ≤ 1000) : ∀ (l : List UInt8) (i : Nat) (x3 : List Int), s.data.toList.drop i = l → x3.length ≤ i → i ≤ 2000 → Ev (fun k => scrimref07_Lower.l0 k s x3 (i : Int)) (strOfNums (x3 ++ l.map fun c => num (lowB c)))
  | [], i, x3, h, hx, hi => by
    have := drop_end h
    refine Ev.step (f := fun k => some (strOfNums x3)) (fun k => by rw [scrimref07_Lower.l0, if_neg (by omega)]) ?_
    exact (Ev.now _).eq (by simp)
  | c :: t, i, x3, h, hx, hi => by
    obtain ⟨h1, h2, h3⟩ := drop_at h
    have ih := rLower_l s hs t (i + 1) (x3 ++ [num (lowB c)]) h3 (by simp; omega) (by omega)
    rw [List.append_assoc] at ih
    refine Ev.step (f := fun k => scrimref07_Lower.l0 k s (x3 ++ [num (lowB c)]) ((i + 1 : Nat) : Int)) (fun k => ?_) ih
    rw [scrimref07_Lower.l0, if_pos (by omega), if_pos (by omega), h2, w64s i (by omega)]
    obtain ⟨l1, l2⟩ := low_num c
    by_cases ha : 65 ≤ (c.toNat : Int)
    · rw [if_pos ha]
      by_cases hb : (c.toNat : Int) ≤ 90
      · rw [if_pos hb, if_pos (by omega), l1 ⟨ha, hb⟩]; rfl
      · rw [if_neg hb, if_pos (by omega), l2 (fun x => hb x.2)]; rfl
    · rw [if_neg ha, if_pos (by omega), l2 (fun x => ha x.1)]; rfl
theorem rLower (s : ByteArray) (hs : s.size ≤ 1000) : Ev (fun k => scrimref07_Lower.f k s) (lowV s) := by
  refine Ev.eq (rLower_l s hs _ 0 [] rfl (by simp) (by omega)) ?_
  have := str_num (s.data.toList.map lowB)
  rw [List.map_map] at this
  exact this
end Go.Proofs.YtmfhhlgjbjbnhaaGreatDoor.Pure
set_option linter.unusedVariables false
set_option linter.unusedSimpArgs false
namespace Go.Proofs.YtmfhhlgjbjbnhaaGreatDoor.Pure
open Go.RowKit Go.Proofs.YtmfhhlgjbjbnhaaGreatDoor.HV Go.Proofs.YtmfhhlgjbjbnhaaGreatDoorW.PrintWords Go.Proofs.YtmfhhlgjbjbnhaaGreatDoorW.PrintLast Go.Proofs.Scn Go.Proofs.Val
def hexI (c : UInt8) : Int := if isHex c = true then (hx c : Int) else -1
theorem rHex (c : UInt8) : Ev (fun k => scrimref08_hex.f k (c.toNat : Int)) (hexI c) := by
  refine Ev.of (fun k => scrimref08_hex.mono _ k) (k := 20) ?_
  have h : ((List.range 256).all fun n => decide (scrimref08_hex.f 20 (n : Int) = some (hexI (UInt8.ofNat n)))) = true := by decide +kernel
  have h2 := List.all_eq_true.1 h c.toNat (List.mem_range.2 c.toNat_lt)
  have h3 := of_decide_eq_true h2
  rw [h3]
  simp
theorem hexI_dig {c : UInt8} (h : isDig c = true) : hexI c = ((c.toNat - 48 : Nat) : Int) ∧ 0 ≤ hexI c ∧ hexI c ≤ 9 := by
  have hh : isHex c = true := by unfold isHex; rw [h]; rfl
  rw [isDig_iff] at h
  have e : hexI c = ((c.toNat - 48 : Nat) : Int) := by unfold hexI; rw [if_pos hh]; unfold hx; rw [if_pos (by omega)]
  exact ⟨e, by omega, by omega⟩
theorem hexI_not {c : UInt8} (h : isDig c = false) : hexI c < 0 ∨ 9 < hexI c := by
  by_cases hh : isHex c = true
  · right
    have h1 := isHex_iff.1 hh
    have h2 : ¬ (48 ≤ c.toNat ∧ c.toNat ≤ 57) := fun e => by rw [isDig_iff.2 e] at h; cases h
    unfold hexI
    rw [if_pos hh]
    unfold hx
    rw [if_neg (by omega)]
    omega
  · left
    unfold hexI
    rw [if_neg hh]
    omega
theorem pow9 {i : Nat} (h : i ≤ 9) : 10 ^ i ≤ 1000000000 := Nat.le_trans (Nat.pow_le_pow_right (by omega) h) (Nat.le_of_eq (by decide))
theorem rDigits_l (s : ByteArray) (hs : s.size ≤ 9) : ∀ (l : List UInt8) (i x : Nat), s.data.toList.drop i = l → i ≤ 9 → x < 10 ^ i → Ev (fun k => scrimref08_digits.l0 k s (x : Int) (i : Int)) (if l.all isDig = true then (decV x l : Int) else -1)
  | [], i, x, h, hi, hx => by
    have := drop_end h
    refine Ev.step (f := fun k => some (x : Int)) (fun k => by rw [scrimref08_digits.l0, if_neg (by omega)]) ?_
    exact (Ev.now _).eq (by simp [decV])
  | c :: t, i, x, h, hi, hx => by
    obtain ⟨h1, h2, h3⟩ := drop_at h
    have hp := pow9 hi
    refine Ev.step (f := fun k => (scrimref08_hex.f k (c.toNat : Int)).bind fun t172 => if t172 < 0 then some (-1) else (scrimref08_hex.f k (c.toNat : Int)).bind fun t173 => if t173 > 9 then some (-1) else (scrimref08_hex.f k (c.toNat : Int)).bind fun t174 => scrimref08_digits.l0 k s (wrap64 (wrap64 (10 * (x : Int)) + t174)) (wrap64 ((i : Int) + 1))) (fun k => by rw [scrimref08_digits.l0, if_pos (by omega), if_pos (by omega), h2]) ?_
    refine Ev.bind (rHex c) ?_
    by_cases hd : isDig c = true
    · obtain ⟨e1, e2, e3⟩ := hexI_dig hd
      have ih := rDigits_l s hs t (i + 1) (x * 10 + (c.toNat - 48)) h3 (by omega) (by rw [isDig_iff] at hd; rw [Nat.pow_succ]; omega)
      simp only [if_neg (show ¬ hexI c < 0 by omega)]
      refine Ev.bind (rHex c) ?_
      simp only [if_neg (show ¬ hexI c > 9 by omega)]
      refine Ev.bind (rHex c) ?_
      rw [isDig_iff] at hd
      refine Ev.congr (f := fun k => scrimref08_digits.l0 k s ((x * 10 + (c.toNat - 48) : Nat) : Int) ((i + 1 : Nat) : Int)) (fun k => ?_) (ih.eq ?_)
      · rw [w64s i (by omega), w64 (n := 10 * (x : Int)) (by omega) (by omega), w64 (by omega) (by omega), e1]
        congr 1
        omega
      · rw [List.all_cons, isDig_iff.2 hd, Bool.true_and, decV_cons]
    · have hd' := Bool.eq_false_iff.2 hd
      rcases hexI_not hd' with hh | hh
      · simp only [if_pos hh]
        exact (Ev.now _).eq (by rw [List.all_cons, hd']; rfl)
      · simp only [if_neg (show ¬ hexI c < 0 by omega)]
        refine Ev.bind (rHex c) ?_
        simp only [if_pos (show hexI c > 9 from hh)]
        exact (Ev.now _).eq (by rw [List.all_cons, hd']; rfl)
theorem rDigits (s : ByteArray) (hs : s.size ≤ 9) : Ev (fun k => scrimref08_digits.f k s) (if s.data.toList.all isDig = true then (decV 0 s.data.toList : Int) else -1) :=
  rDigits_l s hs _ 0 0 rfl (by omega) (by simp)
theorem decV_lt10 {l : List UInt8} {n : Nat} (h : l.all isDig = true) (hl : l.length ≤ n) : decV 0 l < 10 ^ n := by
  have := decV_lt l 0 0 h (by simp)
  have h2 : 10 ^ (0 + l.length) ≤ 10 ^ n := Nat.pow_le_pow_right (by omega) (by omega)
  omega
/-! ### number -/
def nOk (w p : List UInt8) : Bool := digB w 9 && digB p 6
theorem rL1 (x8 x9 : ByteArray) (h8 : x8.size ≤ 9) (h9 : x9.size ≤ 6) (d8 : x8.data.toList.all isDig = true) (d9 : x9.data.toList.all isDig = true) : ∀ (d i : Nat), i + d = x9.size → Ev (fun k => scrimref08_number.l1 k x8 x9 ((10 ^ i : Nat) : Int) (i : Int)) (64 * (decV 0 x8.data.toList : Int) + 64 * (decV 0 x9.data.toList : Int) / ((10 ^ x9.size : Nat) : Int), true)
  | 0, i, h => by
    obtain rfl : i = x9.size := by omega
    have b8 := decV_lt10 d8 (by rw [← sz]; exact h8)
    have b9 := decV_lt10 d9 (by rw [← sz]; exact h9)
    have hp := pow9 (i := x9.size) (by omega)
    have hp0 : 0 < 10 ^ x9.size := Nat.pow_pos (by omega)
    have e9 : (10 : Nat) ^ 9 = 1000000000 := by decide
    have e6 : (10 : Nat) ^ 6 = 1000000 := by decide
    refine Ev.step (f := fun k => (scrimref08_digits.f k x8).bind fun t179 => (scrimref08_digits.f k x9).bind fun t180 => if ((10 ^ x9.size : Nat) : Int) = 0 then none else some (wrap64 (wrap64 (64 * t179) + wrap64 (Int.tdiv (wrap64 (64 * t180)) ((10 ^ x9.size : Nat) : Int))), true)) (fun k => by rw [scrimref08_number.l1, if_neg (by omega)]) ?_
    refine Ev.bind (rDigits x8 h8) (Ev.bind (rDigits x9 (by omega)) ?_)
    rw [d8, d9, if_pos rfl, if_pos rfl, if_neg (by omega)]
    refine (Ev.now _).eq ?_
    rw [w64 (n := 64 * (decV 0 x8.data.toList : Int)) (by omega) (by omega), w64 (n := 64 * (decV 0 x9.data.toList : Int)) (by omega) (by omega), Int.tdiv_eq_ediv_of_nonneg (by omega)]
    have q0 : 0 ≤ 64 * (decV 0 x9.data.toList : Int) / ((10 ^ x9.size : Nat) : Int) := Int.ediv_nonneg (by omega) (by omega)
    have q1 : 64 * (decV 0 x9.data.toList : Int) / ((10 ^ x9.size : Nat) : Int) ≤ 64 * (decV 0 x9.data.toList : Int) := Int.ediv_le_self _ (by omega)
    rw [w64 (n := 64 * (decV 0 x9.data.toList : Int) / ((10 ^ x9.size : Nat) : Int)) (by omega) (by omega), w64 (by omega) (by omega)]
  | d + 1, i, h => by
    have ih := rL1 x8 x9 h8 h9 d8 d9 d (i + 1) (by omega)
    have hp := pow9 (i := i) (by omega)
    refine Ev.step (f := fun k => scrimref08_number.l1 k x8 x9 ((10 ^ (i + 1) : Nat) : Int) ((i + 1 : Nat) : Int)) (fun k => ?_) ih
    rw [scrimref08_number.l1, if_pos (by omega), w64s i (by omega), Nat.pow_succ]
    generalize 10 ^ i = P at hp
    rw [w64 (by omega) (by omega)]
    congr 1
    omega
theorem rJ3 (x8 x9 : ByteArray) (h8 : x8.size ≤ 9) (h9 : x9.size ≤ 6) (d8 : x8.data.toList.all isDig = true) (d9 : x9.data.toList.all isDig = true) : Ev (fun k => scrimref08_number.j3 k x8 x9 false) (64 * (decV 0 x8.data.toList : Int) + 64 * (decV 0 x9.data.toList : Int) / ((10 ^ x9.size : Nat) : Int), true) :=
  Ev.step (f := fun k => scrimref08_number.l1 k x8 x9 ((10 ^ 0 : Nat) : Int) ((0 : Nat) : Int)) (fun k => by rw [scrimref08_number.j3, if_neg (by simp)]; rfl) (rL1 x8 x9 h8 h9 d8 d9 x9.size 0 (by omega))
theorem rJ3n (x8 x9 : ByteArray) : Ev (fun k => scrimref08_number.j3 k x8 x9 true) (0, false) :=
  Ev.step (f := fun k => some (0, false)) (fun k => by rw [scrimref08_number.j3, if_pos rfl]) (Ev.now _)
theorem rJ2 (x8 x9 : ByteArray) : Ev (fun k => scrimref08_number.j2 k x8 x9) (if nOk x8.data.toList x9.data.toList = true then (64 * (decV 0 x8.data.toList : Int) + 64 * (decV 0 x9.data.toList : Int) / ((10 ^ x9.size : Nat) : Int), true) else (0, false)) := by
  by_cases e8 : x8.toList = []
  · refine Ev.step (f := fun k => scrimref08_number.j3 k x8 x9 true) (fun k => by rw [scrimref08_number.j2, if_pos e8]) ((rJ3n x8 x9).eq ?_)
    rw [toL] at e8
    rw [if_neg (by unfold nOk digB; rw [e8]; simp)]
  by_cases e9 : x9.toList = []
  · refine Ev.step (f := fun k => scrimref08_number.j3 k x8 x9 true) (fun k => by rw [scrimref08_number.j2, if_neg e8, if_pos e9]) ((rJ3n x8 x9).eq ?_)
    rw [toL] at e9
    rw [if_neg (by unfold nOk digB; rw [e9]; simp)]
  by_cases h8 : (x8.size : Int) > 9
  · refine Ev.step (f := fun k => scrimref08_number.j3 k x8 x9 true) (fun k => by rw [scrimref08_number.j2, if_neg e8, if_neg e9, if_pos h8]) ((rJ3n x8 x9).eq ?_)
    rw [if_neg]
    intro h
    unfold nOk at h
    rw [Bool.and_eq_true, digB_iff, digB_iff, ← sz] at h
    omega
  by_cases h9 : (x9.size : Int) > 6
  · refine Ev.step (f := fun k => scrimref08_number.j3 k x8 x9 true) (fun k => by rw [scrimref08_number.j2, if_neg e8, if_neg e9, if_neg h8, if_pos h9]) ((rJ3n x8 x9).eq ?_)
    rw [if_neg]
    intro h
    unfold nOk at h
    rw [Bool.and_eq_true, digB_iff, digB_iff, ← sz, ← sz] at h
    omega
  have r8 := rDigits x8 (by omega)
  have r9 := rDigits x9 (by omega)
  refine Ev.step (f := fun k => (scrimref08_digits.f k x8).bind fun t177 => if t177 < 0 then scrimref08_number.j3 k x8 x9 true else (scrimref08_digits.f k x9).bind fun t178 => scrimref08_number.j3 k x8 x9 (decide (t178 < 0))) (fun k => by rw [scrimref08_number.j2, if_neg e8, if_neg e9, if_neg h8, if_neg h9]) ?_
  refine Ev.bind r8 ?_
  by_cases d8 : x8.data.toList.all isDig = true
  · rw [if_pos d8]
    simp only [if_neg (show ¬ (decV 0 x8.data.toList : Int) < 0 by omega)]
    refine Ev.bind r9 ?_
    by_cases d9 : x9.data.toList.all isDig = true
    · rw [if_pos d9]
      simp only [decide_eq_false (show ¬ (decV 0 x9.data.toList : Int) < 0 by omega)]
      refine (rJ3 x8 x9 (by omega) (by omega) d8 d9).eq ?_
      rw [if_pos]
      unfold nOk
      rw [Bool.and_eq_true, digB_iff, digB_iff, ← sz, ← sz, ← toL, ← toL]
      exact ⟨⟨e8, by omega, by rw [toL]; exact d8⟩, e9, by omega, by rw [toL]; exact d9⟩
    · rw [if_neg d9]
      refine (rJ3n x8 x9).eq ?_
      rw [if_neg]
      intro h
      unfold nOk at h
      rw [Bool.and_eq_true, digB_iff, digB_iff] at h
      exact d9 h.2.2.2
  · rw [if_neg d8]
    simp only [if_pos (show (-1 : Int) < 0 by omega)]
    refine (rJ3n x8 x9).eq ?_
    rw [if_neg]
    intro h
    unfold nOk at h
    rw [Bool.and_eq_true, digB_iff, digB_iff] at h
    exact d8 h.1.2.2
end Go.Proofs.YtmfhhlgjbjbnhaaGreatDoor.Pure
set_option linter.unusedVariables false
set_option linter.unusedSimpArgs false
namespace Go.Proofs.YtmfhhlgjbjbnhaaGreatDoor.Pure
open Go.RowKit Go.Proofs.YtmfhhlgjbjbnhaaGreatDoor.HV Go.Proofs.YtmfhhlgjbjbnhaaGreatDoorW.PrintWords Go.Proofs.YtmfhhlgjbjbnhaaGreatDoorW.PrintLast Go.Proofs.Scn Go.Proofs.Val
/-! ### where the first point stands -/
def dotI (l : List UInt8) : Nat := l.findIdx (· == 46)
theorem dot_nil : dotI [] = 0 := rfl
theorem dot_hit (t : List UInt8) : dotI (46 :: t) = 0 := by simp [dotI, List.findIdx_cons]
theorem dot_miss {c : UInt8} (t : List UInt8) (h : c ≠ 46) : dotI (c :: t) = dotI t + 1 := by
  have e : (c == 46) = false := beq_eq_false_iff_ne.2 h
  simp [dotI, List.findIdx_cons, e]
theorem dot_le (l : List UInt8) : dotI l ≤ l.length := List.findIdx_le_length
theorem dot_parts (l : List UInt8) : (46 ∉ l ∧ dotI l = l.length) ∨ ∃ p t, l = p ++ 46 :: t ∧ 46 ∉ p ∧ dotI l = p.length := by
  induction l with
  | nil => exact .inl ⟨by simp, rfl⟩
  | cons c l ih =>
    by_cases h : c = 46
    · subst h; exact .inr ⟨[], l, rfl, by simp, dot_hit l⟩
    · rcases ih with ⟨h1, h2⟩ | ⟨p, t, h1, h2, h3⟩
      · exact .inl ⟨by simp [h1, Ne.symm h], by rw [dot_miss l h, h2]; rfl⟩
      · exact .inr ⟨c :: p, t, by rw [h1]; rfl, by simp [h2, Ne.symm h], by rw [dot_miss l h, h3]; rfl⟩
/-- whole and part -/
def wholeL (l : List UInt8) : List UInt8 := l.take (dotI l)
def partL (l : List UInt8) : List UInt8 := if dotI l < l.length then l.drop (dotI l + 1) else [48]
def resN (w p : List UInt8) : Int × Bool := if nOk w p = true then (64 * (decV 0 w : Int) + 64 * (decV 0 p : Int) / ((10 ^ p.length : Nat) : Int), true) else (0, false)
theorem rTail (s : ByteArray) (hs : s.size ≤ 1000) : Ev (fun k => scrimref08_number.l0 k s ((dotI s.data.toList : Nat) : Int) (-1)) (resN (wholeL s.data.toList) (partL s.data.toList)) := by
  have hd := dot_le s.data.toList
  rw [← sz] at hd
  generalize hI : dotI s.data.toList = d at hd
  have e1 : (s.extract 0 d).data.toList = wholeL s.data.toList := by rw [ext_data, List.drop_zero, Nat.sub_zero, wholeL, hI]
  by_cases hlt : d < s.size
  · have e2 : (s.extract (d + 1) s.size).data.toList = partL s.data.toList := by rw [ext_to, partL, hI, if_pos (by rw [← sz]; exact hlt)]
    refine Ev.step (f := fun k => scrimref08_number.j2 k (s.extract 0 d) (s.extract (d + 1) s.size)) (fun k => ?_) ((rJ2 _ _).eq ?_)
    · rw [scrimref08_number.l0, if_neg (by omega), if_pos (by omega), if_pos (by omega), if_pos (by omega), w64s d (by omega), if_pos (by omega), if_pos (by omega), Int.toNat_natCast, Int.toNat_natCast]
    · unfold resN
      rw [sz (s.extract (d + 1) s.size), e1, e2]
  · refine Ev.step (f := fun k => scrimref08_number.j2 k (s.extract 0 d) ⟨#[48]⟩) (fun k => ?_) ((rJ2 _ _).eq ?_)
    · rw [scrimref08_number.l0, if_neg (by omega), if_pos (by omega), if_pos (by omega), if_neg (by omega), Int.toNat_natCast]
    · unfold resN
      have e2 : (⟨#[48]⟩ : ByteArray).data.toList = partL s.data.toList := by rw [partL, hI, if_neg (by rw [← sz]; exact hlt)]
      rw [sz (⟨#[48]⟩ : ByteArray), e1, e2]
theorem rScan (s : ByteArray) (hs : s.size ≤ 1000) : ∀ (i : Nat), i ≤ s.size → Ev (fun k => scrimref08_number.l0 k s ((i + dotI (s.data.toList.drop i) : Nat) : Int) ((i : Int) - 1)) (resN (wholeL s.data.toList) (partL s.data.toList))
  | 0, h => by
    have := rTail s hs
    rw [List.drop_zero]
    simpa using this
  | i + 1, h => by
    have ih := rScan s hs i (by omega)
    cases hL : s.data.toList.drop i with
    | nil => exact absurd (drop_end hL) (by omega)
    | cons c t =>
      obtain ⟨h1, h2, h3⟩ := drop_at hL
      rw [hL] at ih
      rw [h3]
      have e1 : ((i + 1 : Nat) : Int) - 1 = (i : Int) := by omega
      rw [e1]
      have ew : wrap64 ((i : Int) - 1) = (i : Int) - 1 := w64 (by omega) (by omega)
      by_cases hc : c = 46
      · subst hc
        rw [dot_hit] at ih
        refine Ev.step (f := fun k => scrimref08_number.l0 k s ((i + 0 : Nat) : Int) ((i : Int) - 1)) (fun k => ?_) ih
        rw [scrimref08_number.l0, if_pos (by omega), if_pos (by omega), if_pos (by omega), h2, if_pos (by decide), ew]
        rfl
      · rw [dot_miss t hc] at ih
        refine Ev.step (f := fun k => scrimref08_number.l0 k s ((i + (dotI t + 1) : Nat) : Int) ((i : Int) - 1)) (fun k => ?_) ih
        rw [scrimref08_number.l0, if_pos (by omega), if_pos (by omega), if_pos (by omega), h2, if_neg (by intro e; exact hc (UInt8.toNat_inj.1 (by have h46 : (46 : UInt8).toNat = 46 := rfl; omega))), ew]
        congr 1
        omega
theorem rPlain (s : ByteArray) (hs : s.size ≤ 1000) : Ev (fun k => scrimref08_number.j0 k s false) (resN (wholeL s.data.toList) (partL s.data.toList)) := by
  have h := rScan s hs s.size (Nat.le_refl _)
  have e : s.data.toList.drop s.size = [] := List.drop_eq_nil_of_le (by rw [← sz]; exact Nat.le_refl _)
  rw [e, dot_nil] at h
  refine Ev.step (f := fun k => scrimref08_number.l0 k s ((s.size + 0 : Nat) : Int) ((s.size : Int) - 1)) (fun k => ?_) h
  rw [scrimref08_number.j0, if_neg (by simp), w64 (by omega) (by omega)]
  rfl
/-! ### the same as the given program's -/
theorem decV_zeros (a : Nat) : ∀ m, decV a (List.replicate m 48) = a * 10 ^ m
  | 0 => by simp [decV]
  | m + 1 => by
    rw [List.replicate_succ, decV_cons, decV_zeros, Nat.pow_succ]
    simp
    rw [Nat.mul_assoc, Nat.mul_comm 10]
theorem six_val (p : List UInt8) (h : p.length ≤ 6) : sixV p = decV 0 p * 10 ^ (6 - p.length) := by
  have e : zeros6 = List.replicate 6 48 := rfl
  unfold sixV
  rw [e, List.take_append, List.take_of_length_le h, List.take_replicate, decV_append, decV_zeros]
  congr 2
  omega
theorem part_same (p : List UInt8) (h : digB p 6 = true) : 64 * (decV 0 p : Int) / ((10 ^ p.length : Nat) : Int) = (sixV p : Int) * 64 / 1000000 := by
  obtain ⟨h1, h2, h3⟩ := digB_iff.1 h
  have hl : 1 ≤ p.length := by cases p with | nil => exact absurd rfl h1 | cons => simp
  rw [six_val p (by omega)]
  generalize decV 0 p = d
  obtain hq | hq | hq | hq | hq | hq : p.length = 1 ∨ p.length = 2 ∨ p.length = 3 ∨ p.length = 4 ∨ p.length = 5 ∨ p.length = 6 := by omega
  all_goals
    rw [hq]
    simp only [Nat.reduceSub, Nat.reducePow]
    omega
/-- no sign ahead -/
theorem plain_num (l : List UInt8) (h : ∀ t, l ≠ 45 :: t) : numOk l = nOk (wholeL l) (partL l) ∧ (numOk l = true → numN l = 64 * (decV 0 (wholeL l) : Int) + 64 * (decV 0 (partL l) : Int) / ((10 ^ (partL l).length : Nat) : Int)) := by
  have hp : Lib.hasPrefix l [45] = false := by
    cases l with
    | nil => rfl
    | cons c t =>
      have : c ≠ 45 := fun e => h t (by rw [e])
      simp [Lib.hasPrefix, List.isPrefixOf]
      exact fun e => this e.symm
  have htp : Lib.trimPrefix l [45] = l := by unfold Lib.trimPrefix; rw [if_neg (by rw [hp]; simp)]
  have d48 : digB [48] 6 = true := by decide
  rcases dot_parts l with ⟨h1, h2⟩ | ⟨p, t, h1, h2, h3⟩
  · have hw : wholeL l = l := by unfold wholeL; rw [h2, List.take_length]
    have hpt : partL l = [48] := by unfold partL; rw [if_neg (by omega)]
    have hnp : numParts l = (false, l, [], false) := by unfold numParts; rw [hp, htp, cut_not h1]
    have hok : numOk l = digB l 9 := by unfold numOk; rw [hnp]; simp
    refine ⟨by rw [hok, hw, hpt]; unfold nOk; rw [d48, Bool.and_true], fun hh => ?_⟩
    unfold numN numA
    rw [hh, if_pos rfl, hnp, hw, hpt]
    have : sixV [] = 0 := by decide
    simp only [this, Bool.false_eq_true, if_false]
    have e : decV 0 [48] = 0 := by decide
    rw [e]
    simp
    omega
  · have hw : wholeL l = p := by unfold wholeL; rw [h3, h1, List.take_left]
    have hpt : partL l = t := by
      unfold partL
      rw [if_pos (by rw [h3, h1]; simp), h3, h1, ← List.drop_drop, List.drop_left]; rfl
    have hnp : numParts l = (false, p, t, true) := by unfold numParts; rw [hp, htp, h1, cut_at_one t h2]
    have hok : numOk l = nOk p t := by unfold numOk nOk; rw [hnp]; simp
    refine ⟨by rw [hok, hw, hpt], fun hh => ?_⟩
    have hn := hh
    rw [hok] at hn
    unfold nOk at hn
    rw [Bool.and_eq_true] at hn
    unfold numN numA
    rw [hh, if_pos rfl, hnp, hw, hpt, part_same t hn.2]
    simp only [Bool.false_eq_true, if_false]
    omega
theorem sign_num (r : List UInt8) : numOk (45 :: r) = (numOk r && decide (r.head? ≠ some 45)) ∧ (numOk (45 :: r) = true → numN (45 :: r) = -numN r) := by
  obtain ⟨p1, p2⟩ := prefix_neg r
  by_cases h : ∃ t, r = 45 :: t
  · obtain ⟨t, rfl⟩ := h
    have hf : numOk (45 :: 45 :: t) = false := by
      unfold numOk numParts
      rw [p1, p2]
      have : digB (Lib.cut (45 :: t) [46]).1 9 = false := by
        rcases dot_parts (45 :: t) with ⟨h1, h2⟩ | ⟨p, u, h1, h2, h3⟩
        · rw [cut_not h1]; simp [digB, isDig]
        · rw [h1, cut_at_one u h2]
          cases p with
          | nil => cases h1
          | cons c p =>
            cases h1
            simp [digB, isDig]
      rw [this]; rfl
    rw [hf]
    exact ⟨by simp, fun h => by cases h⟩
  · have hh : ∀ t, r ≠ 45 :: t := fun t e => h ⟨t, e⟩
    have hd : decide (r.head? ≠ some 45) = true := by
      rw [decide_eq_true_iff]
      cases r with
      | nil => simp
      | cons c t => intro e; simp at e; exact hh t (by rw [e])
    have hp : Lib.hasPrefix r [45] = false := by
      cases r with
      | nil => rfl
      | cons c t =>
        have : c ≠ 45 := fun e => hh t (by rw [e])
        simp [Lib.hasPrefix, List.isPrefixOf]
        exact fun e => this e.symm
    have htp : Lib.trimPrefix r [45] = r := by unfold Lib.trimPrefix; rw [if_neg (by rw [hp]; simp)]
    have hok : numOk (45 :: r) = numOk r := by unfold numOk numParts; rw [p2, htp]
    refine ⟨by rw [hok, hd, Bool.and_true], fun e => ?_⟩
    have e2 := e
    rw [hok] at e2
    unfold numN numA numParts
    rw [e, e2, p1, p2, hp, htp]
    simp
theorem nOk_bd {w p : List UInt8} (h : nOk w p = true) : 0 ≤ 64 * (decV 0 w : Int) + 64 * (decV 0 p : Int) / ((10 ^ p.length : Nat) : Int) ∧ 64 * (decV 0 w : Int) + 64 * (decV 0 p : Int) / ((10 ^ p.length : Nat) : Int) ≤ 100000000000 := by
  unfold nOk at h
  rw [Bool.and_eq_true, digB_iff, digB_iff] at h
  have b8 := decV_lt10 (n := 9) h.1.2.2 (by omega)
  have b9 := decV_lt10 (n := 6) h.2.2.2 (by omega)
  have e9 : (10 : Nat) ^ 9 = 1000000000 := by decide
  have e6 : (10 : Nat) ^ 6 = 1000000 := by decide
  have q0 : 0 ≤ 64 * (decV 0 p : Int) / ((10 ^ p.length : Nat) : Int) := Int.ediv_nonneg (by omega) (Int.natCast_nonneg _)
  have q1 : 64 * (decV 0 p : Int) / ((10 ^ p.length : Nat) : Int) ≤ 64 * (decV 0 p : Int) := Int.ediv_le_self _ (by omega)
  omega
theorem rNumber : ∀ (n : Nat) (s : ByteArray), s.size ≤ n → n ≤ 1000 → ∃ m : Int, Ev (fun k => scrimref08_number.f k s) (m, numOk s.data.toList) ∧ (-100000000000 ≤ m ∧ m ≤ 100000000000) ∧ (numOk s.data.toList = true → m = numN s.data.toList)
  | n, s, hn, hm => by
    have plainCase : (∀ t, s.data.toList ≠ 45 :: t) → ∃ m : Int, Ev (fun k => scrimref08_number.j0 k s false) (m, numOk s.data.toList) ∧ (-100000000000 ≤ m ∧ m ≤ 100000000000) ∧ (numOk s.data.toList = true → m = numN s.data.toList) := fun h => by
      obtain ⟨a1, a2⟩ := plain_num _ h
      have r := rPlain s (by omega)
      by_cases hk : nOk (wholeL s.data.toList) (partL s.data.toList) = true
      · have hb := nOk_bd hk
        refine ⟨64 * (decV 0 (wholeL s.data.toList) : Int) + 64 * (decV 0 (partL s.data.toList) : Int) / ((10 ^ (partL s.data.toList).length : Nat) : Int), r.eq ?_, ?_, ?_⟩
        · unfold resN; rw [if_pos hk, a1, hk]
        · omega
        · intro e; rw [a2 e]
      · refine ⟨0, r.eq ?_, by omega, ?_⟩
        · unfold resN; rw [if_neg hk, a1, Bool.eq_false_iff.2 hk]
        · intro e; rw [a1] at e; exact absurd e hk
    cases hL : s.data.toList with
    | nil =>
      obtain ⟨m, h1, h2, h3⟩ := plainCase (fun t e => by rw [hL] at e; cases e)
      rw [hL] at h1 h3
      exact ⟨m, Ev.step (f := fun k => scrimref08_number.j0 k s false) (fun k => by rw [scrimref08_number.f, if_pos (by rw [toL, hL])]) h1, h2, h3⟩
    | cons c t =>
      have hne : ¬ s.toList = [] := by rw [toL, hL]; simp
      obtain ⟨g1, g2, g3⟩ := drop_at (s := s) (i := 0) (c := c) (t := t) (by rw [List.drop_zero, hL])
      have g2' : bt s 0 = (c.toNat : Int) := g2
      by_cases hc : c = 45
      · subst hc
        cases n with
        | zero => omega
        | succ n =>
          have hx : (s.extract 1 s.size).data.toList = t := by rw [ext_to]; exact g3
          have hsz : s.size = t.length + 1 := by rw [sz, hL]; rfl
          obtain ⟨m, h1, h2, h3⟩ := rNumber n (s.extract 1 s.size) (by rw [sz, hx]; omega) (by omega)
          rw [hx] at h1 h3
          obtain ⟨s1, s2⟩ := sign_num t
          have hw : wrap64 (-m) = -m := w64 (by omega) (by omega)
          refine ⟨-m, ?_, by omega, fun e => by rw [s2 e, h3 (by rw [s1, Bool.and_eq_true] at e; exact e.1)]⟩
          refine Ev.step (f := fun k => scrimref08_number.j0 k s true) (fun k => by rw [scrimref08_number.f, if_neg hne, if_pos (by omega), g2']; rfl) ?_
          refine Ev.step (f := fun k => (scrimref08_number.f k (s.extract 1 s.size)).bind fun bt175 => if bt175.2 = true then (if 1 < (s.size : Int) then some (wrap64 (-bt175.1), ((bt s 1) != 45)) else none) else some (wrap64 (-bt175.1), false)) (fun k => by rw [scrimref08_number.j0, if_pos rfl, if_pos (by omega)]) ?_
          refine Ev.bind h1 ?_
          simp only [hw]
          cases hk : numOk t with
          | false =>
            simp only [Bool.false_eq_true, if_false]
            exact (Ev.now _).eq (by rw [s1, hk]; rfl)
          | true =>
            cases t with
            | nil => cases hk
            | cons d u =>
              obtain ⟨k1, k2, k3⟩ := drop_at (s := s) (i := 1) (c := d) (t := u) g3
              have k2' : bt s 1 = (d.toNat : Int) := k2
              simp only [if_true, if_pos (show 1 < (s.size : Int) by rw [hsz]; simp; omega), k2']
              refine (Ev.now _).eq ?_
              rw [s1, hk, Bool.true_and]
              congr 1
              rw [Bool.eq_iff_iff, bne_iff_ne, decide_eq_true_iff]
              simp
              constructor
              · intro a e; exact a (by rw [e]; rfl)
              · intro a e
                exact a (UInt8.toNat_inj.1 (by have h45 : (45 : UInt8).toNat = 45 := rfl; omega))
      · obtain ⟨m, h1, h2, h3⟩ := plainCase (fun t e => by rw [hL] at e; exact hc (List.cons.inj e).1)
        rw [hL] at h1 h3
        refine ⟨m, Ev.step (f := fun k => scrimref08_number.j0 k s false) (fun k => ?_) h1, h2, h3⟩
        rw [scrimref08_number.f, if_neg hne, if_pos (by omega), g2']
        congr 1
        rw [beq_eq_false_iff_ne]
        intro e
        exact hc (UInt8.toNat_inj.1 (by have h45 : (45 : UInt8).toNat = 45 := rfl; omega))
end Go.Proofs.YtmfhhlgjbjbnhaaGreatDoor.Pure
set_option linter.unusedVariables false
set_option linter.unusedSimpArgs false
namespace Go.Proofs.YtmfhhlgjbjbnhaaGreatDoor.Pure
open Go.RowKit Go.Proofs.YtmfhhlgjbjbnhaaGreatDoor.HV Go.Proofs.YtmfhhlgjbjbnhaaGreatDoorW.PrintWords Go.Proofs.YtmfhhlgjbjbnhaaGreatDoorW.PrintLast Go.Proofs.Scn Go.Proofs.Val
theorem rEnds (s e : ByteArray) (hs : s.size ≤ 1000) (he : e.size ≤ 1000) : scrimref08_ends.f s e = some (if Lib.hasSuffix s.data.toList e.data.toList = true then (ba (Lib.trimSuffix s.data.toList e.data.toList), true) else (ba [], false)) := by
  have hw : wrap64 ((s.size : Int) - (e.size : Int)) = (s.size : Int) - (e.size : Int) := w64 (by omega) (by omega)
  have hz := sz s
  have hz2 := sz e
  have hsuf : Lib.hasSuffix s.data.toList e.data.toList = true ↔ e.data.toList = s.data.toList.drop (s.data.toList.length - e.data.toList.length) := by
    unfold Lib.hasSuffix
    rw [List.isSuffixOf_iff_suffix, List.suffix_iff_eq_drop]
  unfold scrimref08_ends.f
  rw [hw]
  by_cases h : (s.size : Int) - (e.size : Int) < 0
  · rw [if_pos h, if_neg]
    · rfl
    · intro hh
      rw [hsuf] at hh
      have := congrArg List.length hh
      rw [List.length_drop] at this
      omega
  · rw [if_neg h, if_pos (by omega), if_pos (by omega)]
    have ht : ((s.size : Int) - (e.size : Int)).toNat = s.size - e.size := by omega
    rw [ht]
    have hx : (s.extract (s.size - e.size) s.size).toList = s.data.toList.drop (s.data.toList.length - e.data.toList.length) := by rw [toL, ext_to, hz, hz2]
    rw [hx, toL]
    by_cases hh : Lib.hasSuffix s.data.toList e.data.toList = true
    · rw [if_pos (hsuf.1 hh).symm, if_pos hh]
      congr 2
      refine ba_ext ?_
      rw [ext_data, List.drop_zero, Nat.sub_zero, ba_data, Lib.trimSuffix, if_pos hh, hz, hz2]
    · rw [if_neg (fun e => hh (hsuf.2 e.symm)), if_neg hh]; rfl
/-! ### May -/
def hasV (p : Nat) (k : Int) : Bool := if k = 1 then (rec0 p).auto else if k = 2 then (rec0 p).length else if k = 3 then (rec0 p).part else if k = 4 then (rec0 p).color else if k = 5 then decide ((rec0 p).wn ≠ 0) else if k = 6 then (rec0 p).number else false
theorem fin_has : ∀ p : Fin 27, ∀ k : Fin 7, scrimref08_has.f (p.val : Int) (k.val : Int) = some (hasV p.val (k.val : Int)) := by decide +kernel
theorem fin_below : ∀ p : Fin 27, scrimref08_below.f (p.val : Int) = some (rec0 p.val).below ∧ scrimref08_Words.f (p.val : Int) = some (wordsP p.val) ∧ ((rec0 p.val).part = true → (rec0 p.val).below = false) := by decide +kernel
theorem has_kind (p k : Int) (h : ¬ (1 ≤ k ∧ k ≤ 6)) : scrimref08_has.f p k = some false := by
  unfold scrimref08_has.f
  rw [if_neg (by omega), if_neg (by omega), if_neg (by omega), if_neg (by omega), if_neg (by omega), if_neg (by omega)]
theorem hasV_kind (p : Nat) (k : Int) (h : ¬ (1 ≤ k ∧ k ≤ 6)) : hasV p k = false := by
  unfold hasV
  rw [if_neg (by omega), if_neg (by omega), if_neg (by omega), if_neg (by omega), if_neg (by omega), if_neg (by omega)]
theorem has_out (p k : Int) (h : ¬ (1 ≤ p ∧ p ≤ 26)) : scrimref08_has.f p k = some false := by
  unfold scrimref08_has.f
  repeat' split
  all_goals first | rfl | omega | (congr 1; first | exact decide_eq_false (by omega) | exact beq_eq_false_iff_ne.2 (by omega))
theorem hasV_zero (k : Int) : hasV 0 k = false := by
  unfold hasV
  repeat' split
  all_goals rfl
theorem rHasK (p k : Int) : scrimref08_has.f p k = some (hasV (cl p) k) := by
  by_cases hp : 1 ≤ p ∧ p ≤ 26
  · by_cases hk : 1 ≤ k ∧ k ≤ 6
    · obtain ⟨q, rfl⟩ : ∃ q : Nat, p = (q : Int) := ⟨p.toNat, by omega⟩
      obtain ⟨j, rfl⟩ : ∃ j : Nat, k = (j : Int) := ⟨k.toNat, by omega⟩
      rw [cl_in hp.1 hp.2, Int.toNat_natCast]
      exact fin_has ⟨q, by omega⟩ ⟨j, by omega⟩
    · rw [has_kind p k hk, hasV_kind _ k hk]
  · rw [has_out p k hp, cl_out hp, hasV_zero]
theorem rWords (p : Int) : scrimref08_Words.f p = some (wordsP (cl p)) := by
  by_cases hp : 1 ≤ p ∧ p ≤ 26
  · obtain ⟨q, rfl⟩ : ∃ q : Nat, p = (q : Int) := ⟨p.toNat, by omega⟩
    rw [cl_in hp.1 hp.2, Int.toNat_natCast]
    exact (fin_below ⟨q, by omega⟩).2.1
  · rw [cl_out hp]
    unfold scrimref08_Words.f
    rw [if_neg (by omega), if_neg (by omega), if_neg (by omega), if_neg (by omega)]
    rfl
theorem rBelow (p : Int) (hp : 1 ≤ p ∧ p ≤ 26) : scrimref08_below.f p = some (rec0 (cl p)).below := by
  obtain ⟨q, rfl⟩ : ∃ q : Nat, p = (q : Int) := ⟨p.toNat, by omega⟩
  rw [cl_in hp.1 hp.2, Int.toNat_natCast]
  exact (fin_below ⟨q, by omega⟩).1
theorem hasV_in {p : Int} {k : Int} (h : hasV (cl p) k = true) : 1 ≤ p ∧ p ≤ 26 := by
  by_cases hp : 1 ≤ p ∧ p ≤ 26
  · exact hp
  · rw [cl_out hp, hasV_zero] at h; cases h
theorem mayV_has (p : Nat) (hp : p ≤ 26) (k n : Int) (h : hasV p k = false) : mayV p k n = false := by
  unfold hasV at h
  unfold mayV
  by_cases k1 : k = 1
  · rw [if_pos k1] at h ⊢; rw [h]; rfl
  rw [if_neg k1] at h ⊢
  by_cases k2 : k = 2
  · rw [if_pos k2] at h ⊢; rw [h]; rfl
  rw [if_neg k2] at h ⊢
  by_cases k3 : k = 3
  · rw [if_pos k3] at h ⊢; rw [h]; rfl
  rw [if_neg k3] at h ⊢
  by_cases k4 : k = 4
  · rw [if_pos k4] at h ⊢; rw [h]; rfl
  rw [if_neg k4] at h ⊢
  by_cases k5 : k = 5
  · rw [if_pos k5] at h ⊢
    have : (rec0 p).wn = 0 := by simpa using h
    rw [this]
    by_cases hn : 0 ≤ n
    · rw [decide_eq_true hn, decide_eq_false (by omega)]; rfl
    · rw [decide_eq_false hn]; rfl
  rw [if_neg k5] at h ⊢
  by_cases k6 : k = 6
  · rw [if_pos k6] at h ⊢; rw [h]; rfl
  rw [if_neg k6]
theorem rMay (p k n : Int) : scrimref08_May.f p k n = some (mayV (cl p) k n) := by
  unfold scrimref08_May.f
  rw [rHasK, Option.bind_some]
  by_cases hh : hasV (cl p) k = true
  · rw [if_pos hh]
    have hp := hasV_in hh
    have hc := cl_le p
    have hbel := rBelow p hp
    have hpb := (fin_below ⟨cl p, by omega⟩).2.2
    simp only at hpb
    unfold hasV at hh
    unfold mayV
    have numc : ∀ x : Bool, x = true → (if n ≤ 63999999999 then (if n ≥ 0 then some true else (scrimref08_below.f p).bind fun t161 => if t161 = true then some (decide (n ≥ (-63999999999))) else some false) else some false) = some (x && (decide (Val.lowV (cl p) ≤ n) && decide (n ≤ 63999999999))) := by
      intro x hx
      rw [hx, hbel, Option.bind_some, Bool.true_and]
      unfold Val.lowV
      by_cases h1 : n ≤ 63999999999
      · rw [if_pos h1, decide_eq_true h1, Bool.and_true]
        cases hb : (rec0 (cl p)).below
        · simp only [Bool.false_eq_true, if_false]
          by_cases h2 : n ≥ 0
          · rw [if_pos h2, decide_eq_true (show 0 ≤ n from h2)]
          · rw [if_neg h2, decide_eq_false (show ¬ 0 ≤ n from h2)]
        · simp only [if_true]
          by_cases h2 : n ≥ 0
          · rw [if_pos h2, decide_eq_true (by omega)]
          · rw [if_neg h2]
      · rw [if_neg h1, decide_eq_false h1, Bool.and_false]
    by_cases k1 : k = 1
    · rw [if_pos k1] at hh ⊢; rw [if_pos k1, hh, Bool.true_and]; congr 1
    rw [if_neg k1] at hh ⊢
    rw [if_neg k1]
    by_cases k2 : k = 2
    · rw [if_pos k2] at hh ⊢; rw [if_neg (by omega), if_neg (by omega)]; exact numc _ hh
    rw [if_neg k2] at hh ⊢
    by_cases k3 : k = 3
    · rw [if_pos k3] at hh ⊢
      rw [if_neg (by omega), if_neg (by omega)]
      have := numc _ hh
      have hl : Val.lowV (cl p) = 0 := by unfold Val.lowV; rw [hpb hh]; rfl
      rw [hl] at this
      exact this
    rw [if_neg k3] at hh ⊢
    by_cases k4 : k = 4
    · rw [if_pos k4] at hh ⊢; rw [if_pos k4, hh, Bool.true_and]
      by_cases h1 : n ≥ 0
      · rw [if_pos h1, decide_eq_true (show 0 ≤ n from h1), Bool.true_and]; congr 1; rw [decide_eq_decide]; omega
      · rw [if_neg h1, decide_eq_false (show ¬ 0 ≤ n from h1)]; rfl
    rw [if_neg k4] at hh ⊢
    rw [if_neg k4]
    by_cases k5 : k = 5
    · rw [if_pos k5] at hh ⊢; rw [if_pos k5, rWords, Option.bind_some, wordsP_len _ hc]
      by_cases h1 : n ≥ 0
      · rw [if_pos h1, decide_eq_true (show 0 ≤ n from h1), Bool.true_and]
      · rw [if_neg h1, decide_eq_false (show ¬ 0 ≤ n from h1)]; rfl
    rw [if_neg k5] at hh ⊢
    rw [if_neg k5]
    by_cases k6 : k = 6
    · rw [if_pos k6] at hh ⊢; exact numc _ hh
    rw [if_neg k6] at hh; cases hh
  · rw [if_neg hh, mayV_has _ (cl_le p) _ _ (Bool.eq_false_iff.2 hh)]
/-! ### color -/
theorem hexI_yes {c : UInt8} (h : isHex c = true) : hexI c = (hx c : Int) ∧ hx c < 16 := ⟨by unfold hexI; rw [if_pos h], hx_lt h⟩
theorem hexI_no {c : UInt8} (h : isHex c = false) : hexI c = -1 := by unfold hexI; rw [if_neg (by rw [h]; simp)]
theorem rCol_l (s : ByteArray) (hs : s.size = 7) : ∀ (l : List UInt8) (i x : Nat), s.data.toList.drop (i + 1) = l → i ≤ 6 → x < 16 ^ i → Ev (fun k => scrimref08_color.l1 k s (x : Int) ((i + 1 : Nat) : Int)) (if l.all isHex = true then ((hexV x l : Int), true) else (0, false))
  | [], i, x, h, hi, hx' => by
    have := drop_end h
    refine Ev.step (f := fun k => some ((x : Int), true)) (fun k => by rw [scrimref08_color.l1, if_neg (by omega)]) ?_
    exact (Ev.now _).eq (by simp [hexV])
  | c :: t, i, x, h, hi, hx' => by
    obtain ⟨h1, h2, h3⟩ := drop_at h
    have hp := hex_le6 hi
    refine Ev.step (f := fun k => (scrimref08_hex.f k (c.toNat : Int)).bind fun t170 => if t170 < 0 then some (0, false) else (scrimref08_hex.f k (c.toNat : Int)).bind fun t171 => scrimref08_color.l1 k s (wrap64 (wrap64 (16 * (x : Int)) + t171)) (wrap64 (((i + 1 : Nat) : Int) + 1))) (fun k => by rw [scrimref08_color.l1, if_pos (by omega), if_pos (by omega), if_pos (by omega), h2]) ?_
    refine Ev.bind (rHex c) ?_
    by_cases hd : isHex c = true
    · obtain ⟨e1, e2⟩ := hexI_yes hd
      have ih := rCol_l s hs t (i + 1) (x * 16 + hx c) h3 (by omega) (by rw [Nat.pow_succ]; omega)
      simp only [if_neg (show ¬ hexI c < 0 by omega)]
      refine Ev.bind (rHex c) ?_
      refine Ev.congr (f := fun k => scrimref08_color.l1 k s ((x * 16 + hx c : Nat) : Int) ((i + 1 + 1 : Nat) : Int)) (fun k => ?_) (ih.eq ?_)
      · rw [w64s (i + 1) (by omega), w64 (n := 16 * (x : Int)) (by omega) (by omega), w64 (by omega) (by omega), e1]
        congr 1
        omega
      · rw [List.all_cons, hd, Bool.true_and]; rfl
    · have hd' := Bool.eq_false_iff.2 hd
      simp only [hexI_no hd', if_pos (show (-1 : Int) < 0 by omega)]
      exact (Ev.now _).eq (by rw [List.all_cons, hd']; rfl)
def colNames : List ByteArray := [⟨#[98, 108, 97, 99, 107]⟩, ⟨#[119, 104, 105, 116, 101]⟩, ⟨#[114, 101, 100]⟩, ⟨#[103, 114, 101, 101, 110]⟩, ⟨#[98, 108, 117, 101]⟩]
theorem col_hit (s : ByteArray) (i : Nat) (hi : i < 5) (n : Int) (hn : rd [0, 16777215, 16711680, 32768, 255] (i : Int) = n) (h : s.toList = (rdOf ByteArray.empty colNames (i : Int)).toList) : Ev (fun k => scrimref08_color.l0 k s colNames (i : Int)) (n, true) := by
  refine Ev.step (f := fun k => some (n, true)) (fun k => ?_) (Ev.now _)
  rw [scrimref08_color.l0, if_pos (by omega), if_pos (by omega), if_pos (by show (i : Int) < 5; omega), if_pos h.symm, Option.bind_some, if_pos (by show (i : Int) < 5; omega), hn]
theorem col_miss (s : ByteArray) (i : Nat) (hi : i < 5) (r : Int × Bool) (h : s.toList ≠ (rdOf ByteArray.empty colNames (i : Int)).toList) (k : Ev (fun k => scrimref08_color.l0 k s colNames ((i + 1 : Nat) : Int)) r) : Ev (fun k => scrimref08_color.l0 k s colNames (i : Int)) r := by
  refine Ev.step (f := fun k => scrimref08_color.l0 k s colNames ((i + 1 : Nat) : Int)) (fun k => ?_) k
  rw [scrimref08_color.l0, if_pos (by omega), if_pos (by omega), if_pos (by show (i : Int) < 5; omega), if_neg (fun e => h e.symm), w64s i (by omega)]
theorem rColor (s : ByteArray) : ∃ m : Int, Ev (fun k => scrimref08_color.f k s) (m, colOk s.data.toList) ∧ (colOk s.data.toList = true → m = colN s.data.toList) := by
  have hname : ∀ (i : Nat) (hi : i < 5) (kk : List UInt8), (rdOf ByteArray.empty colNames (i : Int)).toList = kk → (s.toList = (rdOf ByteArray.empty colNames (i : Int)).toList ↔ s.data.toList = kk) := fun i hi kk e => by rw [e, toL]
  have q0 := hname 0 (by omega) kBlack (by rw [toL]; rfl)
  have q1 := hname 1 (by omega) kWhite (by rw [toL]; rfl)
  have q2 := hname 2 (by omega) kRed (by rw [toL]; rfl)
  have q3 := hname 3 (by omega) kGreen (by rw [toL]; rfl)
  have q4 := hname 4 (by omega) kBlue (by rw [toL]; rfl)
  have start : ∀ r, Ev (fun k => scrimref08_color.l0 k s colNames ((0 : Nat) : Int)) r → Ev (fun k => scrimref08_color.f k s) r := fun r h => h
  by_cases h0 : s.data.toList = kBlack
  · have hn : namC s.data.toList = some 0 := by rw [h0]; rfl
    refine ⟨0, start _ ((col_hit s 0 (by omega) 0 (by rfl) (q0.2 h0)).eq ?_), fun _ => by unfold colN; rw [hn]⟩
    unfold colOk; rw [hn]; rfl
  by_cases h1 : s.data.toList = kWhite
  · have hn : namC s.data.toList = some 16777215 := by rw [h1]; rfl
    refine ⟨16777215, start _ (col_miss s 0 (by omega) _ (fun e => h0 (q0.1 e)) ((col_hit s 1 (by omega) 16777215 (by rfl) (q1.2 h1)).eq ?_)), fun _ => by unfold colN; rw [hn]⟩
    unfold colOk; rw [hn]; rfl
  by_cases h2 : s.data.toList = kRed
  · have hn : namC s.data.toList = some 16711680 := by rw [h2]; rfl
    refine ⟨16711680, start _ (col_miss s 0 (by omega) _ (fun e => h0 (q0.1 e)) (col_miss s 1 (by omega) _ (fun e => h1 (q1.1 e)) ((col_hit s 2 (by omega) 16711680 (by rfl) (q2.2 h2)).eq ?_))), fun _ => by unfold colN; rw [hn]⟩
    unfold colOk; rw [hn]; rfl
  by_cases h3 : s.data.toList = kGreen
  · have hn : namC s.data.toList = some 32768 := by rw [h3]; rfl
    refine ⟨32768, start _ (col_miss s 0 (by omega) _ (fun e => h0 (q0.1 e)) (col_miss s 1 (by omega) _ (fun e => h1 (q1.1 e)) (col_miss s 2 (by omega) _ (fun e => h2 (q2.1 e)) ((col_hit s 3 (by omega) 32768 (by rfl) (q3.2 h3)).eq ?_)))), fun _ => by unfold colN; rw [hn]⟩
    unfold colOk; rw [hn]; rfl
  by_cases h4 : s.data.toList = kBlue
  · have hn : namC s.data.toList = some 255 := by rw [h4]; rfl
    refine ⟨255, start _ (col_miss s 0 (by omega) _ (fun e => h0 (q0.1 e)) (col_miss s 1 (by omega) _ (fun e => h1 (q1.1 e)) (col_miss s 2 (by omega) _ (fun e => h2 (q2.1 e)) (col_miss s 3 (by omega) _ (fun e => h3 (q3.1 e)) ((col_hit s 4 (by omega) 255 (by rfl) (q4.2 h4)).eq ?_))))), fun _ => by unfold colN; rw [hn]⟩
    unfold colOk; rw [hn]; rfl
  have hn : namC s.data.toList = none := by unfold namC; rw [if_neg h4, if_neg h3, if_neg h2, if_neg h1, if_neg h0]
  have through : ∀ r, Ev (fun k => scrimref08_color.l0 k s colNames ((5 : Nat) : Int)) r → Ev (fun k => scrimref08_color.f k s) r := fun r h =>
    start _ (col_miss s 0 (by omega) _ (fun e => h0 (q0.1 e)) (col_miss s 1 (by omega) _ (fun e => h1 (q1.1 e)) (col_miss s 2 (by omega) _ (fun e => h2 (q2.1 e)) (col_miss s 3 (by omega) _ (fun e => h3 (q3.1 e)) (col_miss s 4 (by omega) _ (fun e => h4 (q4.1 e)) h)))))
  have hco : colOk s.data.toList = hexOk s.data.toList := by unfold colOk; rw [hn]; rfl
  have hcn : hexOk s.data.toList = true → colN s.data.toList = (hexV 0 (Lib.trimPrefix s.data.toList [35]) : Int) := fun e => by unfold colN; rw [hn]; simp only; rw [if_pos e]
  have no : hexOk s.data.toList = false → Ev (fun k => scrimref08_color.l0 k s colNames ((5 : Nat) : Int)) (0, false) → ∃ m : Int, Ev (fun k => scrimref08_color.f k s) (m, colOk s.data.toList) ∧ (colOk s.data.toList = true → m = colN s.data.toList) := fun e h =>
    ⟨0, through _ (h.eq (by rw [hco, e])), fun e2 => by rw [hco, e] at e2; cases e2⟩
  have jn : Ev (fun k => scrimref08_color.j1 k s true) (0, false) := Ev.step (f := fun k => some (0, false)) (fun k => by rw [scrimref08_color.j1, if_pos rfl]) (Ev.now _)
  cases hL : s.data.toList with
  | nil =>
    rw [← hL]
    have hz : s.size = 0 := by rw [sz, hL]; rfl
    refine no (by rw [hL]; rfl) (Ev.step (f := fun k => scrimref08_color.j1 k s true) (fun k => ?_) jn)
    rw [scrimref08_color.l0, if_neg (by decide), if_neg (by omega)]
  | cons c t =>
    rw [← hL]
    obtain ⟨g1, g2, g3⟩ := drop_at (s := s) (i := 0) (c := c) (t := t) (by rw [List.drop_zero, hL])
    have g2' : bt s 0 = (c.toNat : Int) := g2
    have hsz : s.size = t.length + 1 := by rw [sz, hL]; rfl
    by_cases h7 : s.size = 7
    · by_cases hc : c = 35
      · subst hc
        have hpre : Lib.hasPrefix s.data.toList [35] = true := by rw [hL]; simp [Lib.hasPrefix, List.isPrefixOf]
        have htr : Lib.trimPrefix s.data.toList [35] = t := by unfold Lib.trimPrefix; rw [if_pos hpre, hL]; rfl
        have hho : hexOk s.data.toList = t.all isHex := by unfold hexOk; rw [hpre, htr, decide_eq_true (by omega)]; simp
        have r := rCol_l s h7 t 0 0 g3 (by omega) (by simp)
        have rr : Ev (fun k => scrimref08_color.l0 k s colNames ((5 : Nat) : Int)) (if t.all isHex = true then ((hexV 0 t : Int), true) else (0, false)) := by
          refine Ev.step (f := fun k => scrimref08_color.j1 k s false) (fun k => ?_) (Ev.step (f := fun k => scrimref08_color.l1 k s ((0 : Nat) : Int) ((0 + 1 : Nat) : Int)) (fun k => ?_) r)
          · rw [scrimref08_color.l0, if_neg (by decide), if_pos (by omega), if_pos (by omega), g2']; rfl
          · rw [scrimref08_color.j1, if_neg (by simp)]; rfl
        by_cases ha : t.all isHex = true
        · rw [if_pos ha] at rr
          exact ⟨(hexV 0 t : Int), through _ (rr.eq (by rw [hco, hho, ha])), fun e => by rw [hcn (by rw [hho, ha]), htr]⟩
        · rw [if_neg ha] at rr
          exact no (by rw [hho]; exact Bool.eq_false_iff.2 ha) rr
      · have hpre : Lib.hasPrefix s.data.toList [35] = false := by
          rw [hL]; simp [Lib.hasPrefix, List.isPrefixOf]; exact fun e => hc e.symm
        refine no (by unfold hexOk; rw [hpre]; rfl) (Ev.step (f := fun k => scrimref08_color.j1 k s true) (fun k => ?_) jn)
        rw [scrimref08_color.l0, if_neg (by decide), if_pos (by omega), if_pos (by omega), g2']
        congr 1
        rw [bne_iff_ne]
        intro e
        exact hc (UInt8.toNat_inj.1 (by have h35 : (35 : UInt8).toNat = 35 := rfl; omega))
    · refine no ?_ (Ev.step (f := fun k => scrimref08_color.j1 k s true) (fun k => ?_) jn)
      · unfold hexOk
        cases hpre : Lib.hasPrefix s.data.toList [35] with
        | false => rfl
        | true =>
          have : ¬ (Lib.trimPrefix s.data.toList [35]).length = 6 := by
            unfold Lib.trimPrefix
            rw [if_pos hpre, List.length_drop, ← sz]
            simp
            omega
          rw [decide_eq_false this]; rfl
      · rw [scrimref08_color.l0, if_neg (by decide), if_neg (by omega)]
end Go.Proofs.YtmfhhlgjbjbnhaaGreatDoor.Pure
