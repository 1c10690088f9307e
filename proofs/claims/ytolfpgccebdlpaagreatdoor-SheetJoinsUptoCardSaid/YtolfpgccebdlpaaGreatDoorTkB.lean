/- token.Name: contracts of functions of the given program, proved by walking their text; no condition beside those that each theorem states. -/
import Derived.Test.YtolfpgccebdlpaaGreatDoorScA
import Derived.KernelRfl
import Derived.Shelf.Spec.SlicesGrow
import Derived.OwnWalk
import Derived.Test.YtolfpgccebdlpaaGreatDoorWQPut
import Derived.Test.YtolfpgccebdlpaaGreatDoorRgn
import Derived.BigQuiet
import Derived.Test.YtolfpgccebdlpaaGreatDoorWLast
import Derived.Deep.RegionHeld3
set_option linter.unusedVariables false
set_option linter.unusedSimpArgs false
namespace Go.Proofs.Tok
open Go.RowKit Go.Lib Go.Proofs.YtolfpgccebdlpaaGreatDoorW.PrintWords
def ltr (x : Int) : Bool := decide (97 ≤ Go.bits .or .u8 x 32) && decide (Go.bits .or .u8 x 32 ≤ 122)
def inI (x : Int) : Bool := ltr x || ((decide (48 ≤ x) && decide (x ≤ 57)) || (x == 45))
set_option maxHeartbeats 2000000 in
set_option maxRecDepth 100000 in
theorem letter_any (x : Int) (w : World) : Calls Tryz.prog 167 #[.int .u8 x] w fun e w' => e = .returned (.bool (ltr x)) ∧ Drawn0 w w' := by
  by_cases c2 : 97 ≤ Go.bits .or .u8 x 32
  · have c2b0 : decide (97 ≤ (Go.bits .or .u8 x 32)) = true := decide_eq_true c2
    have e : ltr x = decide (Go.bits .or .u8 x 32 ≤ 122) := by unfold ltr; rw [c2b0]; rfl
    rw [e]
    clear e c2
    go_enter Tryz.func167, Tryz.ntmps167
    go_wp2
    go_ret
    exact ⟨by first | rfl | (simp; done) | (simp [*]; done), by repeat (first | exact Drawn0.refl _ | apply Drawn0.step)⟩
  · have c2b0 : decide (97 ≤ (Go.bits .or .u8 x 32)) = false := decide_eq_false c2
    have e : ltr x = false := by unfold ltr; rw [c2b0]; rfl
    rw [e]
    clear e c2
    go_enter Tryz.func167, Tryz.ntmps167
    go_wp2
    go_ret
    exact ⟨by first | rfl | (simp; done) | (simp [*]; done), by repeat (first | exact Drawn0.refl _ | apply Drawn0.step)⟩
set_option maxHeartbeats 4000000 in
set_option maxRecDepth 100000 in
theorem inName_any (x : Int) (w : World) : Calls Tryz.prog 166 #[.int .u8 x] w fun e w' => e = .returned (.bool (inI x)) ∧ Drawn0 w w' := by
  have hl := letter_any x
  unfold inI
  generalize ltr x = b at hl ⊢
  cases b with
  | true =>
    go_enter Tryz.func166, Tryz.ntmps166
    go_wp2_with (first | (go_at_call 167; refine (hl _).mono ?_; rintro e w' ⟨rfl, ⟨nd, rfl⟩⟩))
    go_ret
    exact ⟨by first | rfl | (simp; done) | (simp [*]; done), by repeat (first | exact Drawn0.refl _ | apply Drawn0.step)⟩
  | false =>
    by_cases c4 : 48 ≤ x
    · have c4b0 : decide (48 ≤ x) = true := decide_eq_true c4
      by_cases c5 : x ≤ 57
      · have c5b0 : decide (x ≤ 57) = true := decide_eq_true c5
        rw [c4b0, c5b0]
        clear c4 c5
        go_enter Tryz.func166, Tryz.ntmps166
        go_wp2_with (first | (go_at_call 167; refine (hl _).mono ?_; rintro e w' ⟨rfl, ⟨nd, rfl⟩⟩))
        go_ret
        exact ⟨by first | rfl | (simp; done) | (simp [*]; done), by repeat (first | exact Drawn0.refl _ | apply Drawn0.step)⟩
      · have c5b0 : decide (x ≤ 57) = false := decide_eq_false c5
        rw [c4b0, c5b0]
        clear c4 c5
        go_enter Tryz.func166, Tryz.ntmps166
        go_wp2_with (first | (go_at_call 167; refine (hl _).mono ?_; rintro e w' ⟨rfl, ⟨nd, rfl⟩⟩))
        go_ret
        exact ⟨by first | rfl | (simp; done) | (simp [*]; done), by repeat (first | exact Drawn0.refl _ | apply Drawn0.step)⟩
    · have c4b0 : decide (48 ≤ x) = false := decide_eq_false c4
      rw [c4b0]
      clear c4
      go_enter Tryz.func166, Tryz.ntmps166
      go_wp2_with (first | (go_at_call 167; refine (hl _).mono ?_; rintro e w' ⟨rfl, ⟨nd, rfl⟩⟩))
      go_ret
      exact ⟨by first | rfl | (simp; done) | (simp [*]; done), by repeat (first | exact Drawn0.refl _ | apply Drawn0.step)⟩
/-! ### small letters -/
def lowT (c : UInt8) : UInt8 := if ltr (c.toNat : Int) = true then UInt8.ofNat (Go.bits .or .u8 (c.toNat : Int) 32).toNat else c
theorem lowT_yes {c : UInt8} (h : ltr (c.toNat : Int) = true) : Go.bits .or .u8 (c.toNat : Int) 32 = ((lowT c).toNat : Int) := by
  have k : ((List.range 256).all fun n => Go.bits .or .u8 (n : Int) 32 == ((UInt8.ofNat (Go.bits .or .u8 (n : Int) 32).toNat).toNat : Int)) = true := by kernel_rfl
  have k2 := List.all_eq_true.1 k c.toNat (List.mem_range.2 c.toNat_lt)
  unfold lowT
  rw [if_pos h]
  exact beq_iff_eq.1 k2
theorem lowT_no {c : UInt8} (h : ltr (c.toNat : Int) = false) : lowT c = c := by unfold lowT; rw [h]; rfl
def lowTV (l : List UInt8) : ByteArray := ⟨(l.map lowT).toArray⟩
def tAt (l : List UInt8) (k j : Nat) : Int := ((if j < k then lowT (l.getD j 0) else l.getD j 0).toNat : Int)
theorem tAt_next {l : List UInt8} {k j : Nat} (h : j ≠ k) : tAt l (k + 1) j = tAt l k j := by
  unfold tAt
  by_cases h1 : j < k
  · rw [if_pos h1, if_pos (by omega)]
  · rw [if_neg h1, if_neg (by omega)]
theorem tAt_same (l : List UInt8) (k : Nat) : tAt l (k + 1) k = ((lowT (l.getD k 0)).toNat : Int) := by
  unfold tAt
  rw [if_pos (Nat.lt_succ_self k)]
def TAt (s : ByteArray) (B : Nat) (w wr : World) (k : Nat) : Prop := (∀ j, j < s.size → wr.cell? ⟨B, j, none⟩ = some (.int .u8 (tAt s.data.toList k j)) ∧ wr.frozen? ⟨B, j, none⟩ = false) ∧ Below w.heap.size w wr
theorem TAt.start (s : ByteArray) (w : World) (e : TypeId) : TAt s w.heap.size w (Lib.bytesWorld w e s) 0 := by
  refine ⟨fun j hj => ⟨?_, ?_⟩, ?_⟩
  · rw [Lib.bytesWorld_cell w e s j hj]
    unfold tAt
    rw [if_neg (by omega)]
  · simp only [World.frozen?, Lib.bytesWorld_at_new]
    have : (Lib.bytesCells w e s).size ≥ s.size := by
      simp only [Lib.bytesCells, Array.size_append, Array.size_map]
      have : s.data.size = s.size := rfl
      omega
    simp
    omega
  · refine ⟨rfl, rfl, rfl, by rw [Lib.bytesWorld_size]; omega, fun k hk => Lib.bytesWorld_at_old w e s k hk⟩
theorem TAt.draws {s : ByteArray} {B k : Nat} {w wr : World} (h : TAt s B w wr k) (n : Nat) : TAt s B w (wr.drewN n) k := ⟨h.1, pw_below_drewN h.2 n⟩
theorem TAt.keep {s : ByteArray} {B k : Nat} {w wr : World} (h : TAt s B w wr k) (hk : k < s.size) (hn : ltr ((s.data.toList.getD k 0).toNat : Int) = false) : TAt s B w wr (k + 1) := by
  refine ⟨fun j hj => ⟨?_, (h.1 j hj).2⟩, h.2⟩
  rw [(h.1 j hj).1]
  by_cases e : j = k
  · subst e
    rw [tAt_same, lowT_no hn]
    unfold tAt
    rw [if_neg (by omega)]
  · rw [tAt_next e]
theorem TAt.put {s : ByteArray} {B k : Nat} {w wr : World} (h : TAt s B w wr k) (hB : w.heap.size ≤ B) (hk : k < s.size) {v : Int} (hv : v = ((lowT (s.data.toList.getD k 0)).toNat : Int)) : TAt s B w (wr.setCell ⟨B, k, none⟩ (.int .u8 v)) (k + 1) := by
  refine ⟨fun j hj => ⟨?_, by rw [World.frozen?_setCell]; exact (h.1 j hj).2⟩, h.2.setCell (p := ⟨B, k, none⟩) hB _⟩
  by_cases e : j = k
  · subst e
    rw [tAt_same, ← hv]
    exact World.cell?_setCell_same' _ _ _ (by rw [(h.1 j hj).1]; rfl)
  · rw [tAt_next e, ← (h.1 j hj).1]
    exact World.cell?_setCell_other _ _ _ _ (by intro q; injection q with _ q; exact e q.symm)
theorem lowTV_nums (s : ByteArray) : strOfNums ((List.range s.size).map (tAt s.data.toList s.size)) = lowTV s.data.toList := by
  unfold strOfNums lowTV
  congr 2
  refine List.ext_getElem? fun j => ?_
  rw [List.map_map, List.getElem?_map, List.getElem?_map]
  by_cases h : j < s.size
  · have h' : j < s.data.toList.length := by rw [← Lib.size_eq]; exact h
    rw [List.getElem?_range h, List.getElem?_eq_getElem h']
    have e : s.data.toList.getD j 0 = s.data.toList[j] := by rw [List.getD_eq_getElem?_getD, List.getElem?_eq_getElem h']; rfl
    simp only [Option.map_some, Function.comp_apply, tAt]
    rw [if_pos h, e]
    simp
  · have h' : ¬ j < s.data.toList.length := by rw [← Lib.size_eq]; exact h
    rw [List.getElem?_eq_none (by simpa using h), List.getElem?_eq_none (by omega)]
    rfl
set_option maxHeartbeats 2000000 in
set_option maxRecDepth 100000 in
theorem lower_any (s : ByteArray) (w : World) (hs : s.size < 4294967281) :
    Calls Tryz.prog 168 #[.string s] w fun e w' => e = .returned (.string (lowTV s.data.toList)) ∧ Below w.heap.size w w' := by
  have h0 := TAt.start s w 5
  have hconv := Lib.run_convert_string_bytes (P := Tryz.prog) w 9 97 5 s Tryz.underlying9 Tryz.underlying97 Tryz.underlying5
  obtain ⟨W1, hW1⟩ : ∃ W1, Lib.bytesWorld w 5 s = W1 := ⟨_, rfl⟩
  obtain ⟨cap, hcap⟩ : ∃ cap, grownCap w s.size 0 5 = cap := ⟨_, rfl⟩
  rw [hW1] at h0 hconv
  rw [hcap] at hconv
  have H0 : Aside (TAt s w.heap.size w W1 0) := h0
  clear hW1 hcap h0
  go_enter Tryz.func168, Tryz.ntmps168
  go_wp2
  clear hconv
  go_loopw [10, 11, 12, 13, 14, 4, 5, 15, 16, 17, 18, 19, 20, 21, 22] (fun i _ _ _ _ _ _ _ _ _ _ _ _ _ _ wr => ∃ k : Nat, k ≤ s.size ∧ i = .int .i64 k ∧ Aside (TAt s w.heap.size w wr k)) (fun i _ _ _ _ _ _ _ _ _ _ _ _ _ _ _ => s.size - (RowKit.intOf i).toNat)
  case atStart => exact ⟨0, Nat.zero_le _, rfl, H0.out⟩
  case round =>
    clear H0
    obtain ⟨k, hk, rfl, A1⟩ := hrel
    by_cases hlt : k < s.size
    · have hltz : (k : Int) < (s.size : Int) := by omega
      obtain ⟨c, hc⟩ : ∃ c, s.data.toList.getD k 0 = c := ⟨_, rfl⟩
      have hcell : wr.cell? ⟨w.heap.size, k, none⟩ = some (.int .u8 (c.toNat : Int)) := by
        rw [(A1.out.1 k hlt).1]
        unfold tAt
        rw [if_neg (by omega), hc]
      have hfz := (A1.out.1 k hlt).2
      have HC : Aside (s.data.toList.getD k 0 = c) := hc
      clear hc
      have hl := letter_any (c.toNat : Int)
      obtain ⟨b, hb⟩ : ∃ b, ltr (c.toNat : Int) = b := ⟨_, rfl⟩
      have HL : Aside (ltr (c.toNat : Int) = b) := hb
      rw [hb] at hl
      clear hb
      cases b with
      | true =>
        go_wp2_with (first | (go_at_call 167; refine (hl _).mono ?_; rintro e w' ⟨rfl, ⟨nd, rfl⟩⟩))
        refine ⟨⟨k + 1, by omega, by go_num, (A1.out.draws _).put (Nat.le_refl _) hlt ?_⟩, by simp [RowKit.intOf]; omega⟩
        rw [HC.out]
        exact lowT_yes HL.out
      | false =>
        go_wp2_with (first | (go_at_call 167; refine (hl _).mono ?_; rintro e w' ⟨rfl, ⟨nd, rfl⟩⟩))
        exact ⟨⟨k + 1, by omega, by go_num, (A1.out.draws _).keep hlt (by rw [HC.out]; exact HL.out)⟩, by simp [RowKit.intOf]; omega⟩
    · obtain rfl : k = s.size := by omega
      have hltz : ¬ ((s.size : Int) < (s.size : Int)) := by omega
      have hcv := run_convert_bytes_arg (P := Tryz.prog) wr 97 5 Tryz.underlying97 Tryz.underlying5 w.heap.size 0 s.size cap ((List.range s.size).map (tAt s.data.toList s.size)) (by simp) (fun i hi => by rw [Nat.zero_add, (A1.out.1 i hi).1]; simp [List.getD, hi]) 9 Tryz.underlying9
      rw [lowTV_nums] at hcv
      go_wp2
      go_ret
      exact ⟨rfl, A1.out.2⟩
end Go.Proofs.Tok
namespace Go.Proofs.Tok
open Go.RowKit Go.Lib Go.Proofs.YtolfpgccebdlpaaGreatDoorW.PrintWords
def lead (l : List UInt8) : Nat := (l.takeWhile fun c => inI (c.toNat : Int)).length
theorem lead_nil : lead [] = 0 := rfl
theorem lead_yes {c : UInt8} {t : List UInt8} (h : inI (c.toNat : Int) = true) : lead (c :: t) = lead t + 1 := by simp [lead, List.takeWhile, h]
theorem lead_no {c : UInt8} {t : List UInt8} (h : inI (c.toNat : Int) = false) : lead (c :: t) = 0 := by simp [lead, List.takeWhile, h]
theorem lead_le : ∀ l : List UInt8, lead l ≤ l.length
  | [] => Nat.le_refl _
  | c :: t => by
    have := lead_le t
    cases h : inI (c.toNat : Int) with
    | true => rw [lead_yes h]; simp; exact this
    | false => rw [lead_no h]; exact Nat.zero_le _
theorem lead_lt : ∀ {l : List UInt8} {k : Nat}, k < lead l → inI ((l.getD k 0).toNat : Int) = true
  | [], k, h => by simp [lead_nil] at h
  | c :: t, k, h => by
    cases hc : inI (c.toNat : Int) with
    | true =>
      rw [lead_yes hc] at h
      cases k with
      | zero => exact hc
      | succ k => exact lead_lt (l := t) (k := k) (by omega)
    | false => rw [lead_no hc] at h; omega
theorem lead_at : ∀ {l : List UInt8}, lead l < l.length → inI ((l.getD (lead l) 0).toNat : Int) = false
  | [], h => by simp at h
  | c :: t, h => by
    cases hc : inI (c.toNat : Int) with
    | true =>
      rw [lead_yes hc] at h ⊢
      exact lead_at (l := t) (by simp at h; omega)
    | false => rw [lead_no hc]; exact hc
def nameOk (l : List UInt8) : Bool := !(lead l == 0) && (decide (lead l ≤ 20) && ltr ((l.getD 0 0).toNat : Int))
theorem cv_take (l : List UInt8) (B cap k : Nat) (W : World) (hk : k ≤ l.length) (hc : ∀ j, j < l.length → W.cell? ⟨B, j, none⟩ = some (.int .u8 ((l.getD j 0).toNat : Int))) :
    (convert 97 9 (.slice (some ⟨B, 0, none⟩) k cap)).run Tryz.prog W = .ok (.string ⟨(l.take k).toArray⟩) W := by
  have hcv := run_convert_bytes_arg (P := Tryz.prog) W 97 5 Tryz.underlying97 Tryz.underlying5 B 0 k cap ((l.take k).map fun c => (c.toNat : Int)) (by simp; omega) (fun i hi => by
    rw [Nat.zero_add, hc i (by omega)]
    congr 1
    simp [List.getD, List.getElem?_take, hi, List.getElem?_eq_getElem (show i < l.length by omega)]) 9 Tryz.underlying9
  rw [hcv]
  have e : strOfNums ((l.take k).map fun c => (c.toNat : Int)) = ⟨(l.take k).toArray⟩ := by
    unfold strOfNums
    rw [List.map_map]
    have e2 : (l.take k).map ((fun n : Int => UInt8.ofNat n.toNat) ∘ fun c : UInt8 => (c.toNat : Int)) = l.take k := by
      conv => rhs; rw [← List.map_id (l.take k)]
      apply List.map_congr_left
      intro c _
      simp
    rw [e2]
  rw [e]
set_option maxHeartbeats 4000000 in
set_option maxRecDepth 400000 in
theorem name_any (l : List UInt8) (B cap : Nat) (w : World) (hc : ∀ j, j < l.length → w.cell? ⟨B, j, none⟩ = some (.int .u8 ((l.getD j 0).toNat : Int))) (hB : B < w.heap.size) (hcap : l.length ≤ cap) (hs : l.length < 4294967281) :
    Calls Tryz.prog 134 #[.slice (some ⟨B, 0, none⟩) l.length cap] w fun e w' => Below w.heap.size w w' ∧ ∃ A c, e = .returned (if nameOk l = true then .tuple #[.string (lowTV (l.take (lead l))), .slice A (l.length - lead l) c, .bool true] else .tuple #[.string ⟨#[]⟩, .slice none 0 0, .bool false]) := by
  have HC : Aside (∀ j, j < l.length → w.cell? ⟨B, j, none⟩ = some (.int .u8 ((l.getD j 0).toNat : Int))) := hc
  clear hc
  obtain ⟨m, hm⟩ : ∃ m, lead l = m := ⟨_, rfl⟩
  have HM : Aside (lead l = m) := hm
  have hml : m ≤ l.length := by rw [← hm]; exact lead_le l
  obtain ⟨ok, hok⟩ : ∃ ok, nameOk l = ok := ⟨_, rfl⟩
  have HO : Aside (nameOk l = ok) := hok
  obtain ⟨T, hT⟩ : ∃ T, lowTV (l.take m) = T := ⟨_, rfl⟩
  have HT : Aside (lowTV (l.take m) = T) := hT
  rw [hm, hok, hT]
  clear hm hok hT
  have hcapz : (l.length : Int) ≤ (cap : Int) := by omega
  have hmz : (m : Int) ≤ (l.length : Int) := by omega
  go_enter Tryz.func134, Tryz.ntmps134
  go_wp2
  go_loopw [5, 6, 7, 8, 9, 10, 11, 12, 13, 14, 15, 16, 17, 18] (fun i _ _ _ _ _ _ _ _ _ _ _ _ _ wr => ∃ k : Nat, k ≤ m ∧ i = .int .i64 k ∧ Aside (Below w.heap.size w wr)) (fun i _ _ _ _ _ _ _ _ _ _ _ _ _ _ => m - (RowKit.intOf i).toNat)
  case atStart => exact ⟨0, Nat.zero_le _, rfl, Below.refl _ _⟩
  case round =>
    obtain ⟨k, hk, rfl, A1⟩ := hrel
    by_cases hkm : k < m
    · have hin := inName_any ((l.getD k 0).toNat : Int)
      rw [lead_lt (l := l) (k := k) (by rw [HM.out]; exact hkm)] at hin
      have hkl : k < l.length := by omega
      have g1 : decide ((k : Int) < (l.length : Int)) = true := decide_eq_true (by omega)
      have hcell : wr.cell? ⟨B, k, none⟩ = some (.int .u8 ((l.getD k 0).toNat : Int)) := (A1.out.cell hB).trans (HC.out k hkl)
      have hltz : (k : Int) < (l.length : Int) := by omega
      generalize ((l.getD k 0).toNat : Int) = x at hin hcell
      go_wp2_with (first | (go_at_call 166; refine (hin _).mono ?_; rintro e w' ⟨rfl, ⟨nd, rfl⟩⟩))
      exact ⟨⟨k + 1, by omega, by go_num, pw_below_drewN A1.out _⟩, by simp [RowKit.intOf]; omega⟩
    · obtain rfl : k = m := by omega
      have HZ : Aside ((k = 0 ∧ ok = false) ∨ (20 < k ∧ ok = false) ∨ (0 < k ∧ k ≤ 20 ∧ ltr ((l.getD 0 0).toNat : Int) = ok)) := by
        have h1 := HO.out
        unfold nameOk at h1
        rw [HM.out] at h1
        by_cases z : k = 0
        · left
          subst z
          exact ⟨rfl, h1.symm⟩
        · have zb : (k == 0) = false := beq_eq_false_iff_ne.2 z
          rw [zb] at h1
          by_cases z2 : k ≤ 20
          · rw [decide_eq_true z2] at h1
            exact .inr (.inr ⟨by omega, z2, by simpa using h1⟩)
          · rw [decide_eq_false z2] at h1
            exact .inr (.inl ⟨by omega, h1.symm⟩)
      by_cases hkl : k < l.length
      · have hin := inName_any ((l.getD k 0).toNat : Int)
        have hno := lead_at (l := l) (by rw [HM.out]; exact hkl)
        rw [HM.out] at hno
        rw [hno] at hin
        clear hno
        have g1 : decide ((k : Int) < (l.length : Int)) = true := decide_eq_true (by omega)
        have hcell : wr.cell? ⟨B, k, none⟩ = some (.int .u8 ((l.getD k 0).toNat : Int)) := (A1.out.cell hB).trans (HC.out k hkl)
        have hltz : (k : Int) < (l.length : Int) := by omega
        generalize ((l.getD k 0).toNat : Int) = x at hin hcell
        rcases HZ.out with ⟨z, zo⟩ | ⟨z, zo⟩ | ⟨z1, z2, zo⟩
        · subst zo
          subst z
          go_wp2_with (first | (go_at_call 166; refine (hin _).mono ?_; rintro e w' ⟨rfl, ⟨nd, rfl⟩⟩))
          go_ret3
          exact ⟨by repeat (first | exact A1.out | apply pw_below_drewN | apply below_drew1), by first | rfl | exact ⟨none, 0, rfl⟩⟩
        · subst zo
          have zk1 : ((k : Int) == 0) = false := beq_eq_false_iff_ne.2 (by omega)
          have zk2 : ¬ k = 0 := by omega
          have zk3 : decide ((20 : Int) < (k : Int)) = true := decide_eq_true (by omega)
          have zk4 : (20 : Int) < (k : Int) := by omega
          go_wp2_with (first | (go_at_call 166; refine (hin _).mono ?_; rintro e w' ⟨rfl, ⟨nd, rfl⟩⟩))
          go_ret3
          exact ⟨by repeat (first | exact A1.out | apply pw_below_drewN | apply below_drew1), by first | rfl | exact ⟨none, 0, rfl⟩⟩
        · have zk1 : ((k : Int) == 0) = false := beq_eq_false_iff_ne.2 (by omega)
          have zk2 : ¬ k = 0 := by omega
          have zk3 : decide ((20 : Int) < (k : Int)) = false := decide_eq_false (by omega)
          have zk4 : ¬ (20 : Int) < (k : Int) := by omega
          have hlt := letter_any ((l.getD 0 0).toNat : Int)
          rw [zo] at hlt
          have hc0 : wr.cell? ⟨B, 0, none⟩ = some (.int .u8 ((l.getD 0 0).toNat : Int)) := (A1.out.cell hB).trans (HC.out 0 (by omega))
          have hl0 : (0 : Int) < (l.length : Int) := by omega
          clear zo HZ
          generalize ((l.getD 0 0).toNat : Int) = y at hlt hc0
          cases ok with
          | false =>
            go_wp2_with (first | (go_at_call 166; refine (hin _).mono ?_; rintro e w' ⟨rfl, ⟨nd, rfl⟩⟩) | (go_at_call 167; refine (hlt _).mono ?_; rintro e w' ⟨rfl, ⟨nd2, rfl⟩⟩))
            go_ret3
            exact ⟨by repeat (first | exact A1.out | apply pw_below_drewN | apply below_drew1), by first | rfl | exact ⟨none, 0, rfl⟩⟩
          | true =>
            have hcv : ∀ n, (convert 97 9 (.slice (some ⟨B, 0, none⟩) k cap)).run Tryz.prog (wr.drewN n) = .ok (.string ⟨(l.take k).toArray⟩) (wr.drewN n) := fun n => cv_take l B cap k (wr.drewN n) hml (fun j hj => (A1.out.cell hB).trans (HC.out j hj))
            have hlo := fun W => lower_any (⟨(l.take k).toArray⟩ : ByteArray) W (by rw [Lib.size_eq]; simp; omega)
            rw [show (⟨(l.take k).toArray⟩ : ByteArray).data.toList = l.take k from by simp] at hlo
            rw [HT.out] at hlo
            generalize (⟨(l.take k).toArray⟩ : ByteArray) = U at hlo hcv
            go_wp2_with (first | (go_at_call 166; refine (hin _).mono ?_; rintro e w' ⟨rfl, ⟨nd, rfl⟩⟩) | (go_at_call 167; refine (hlt _).mono ?_; rintro e w' ⟨rfl, ⟨nd2, rfl⟩⟩) | (go_at_call 168; refine (hlo _).mono ?_; rintro e w' ⟨rfl, hB2⟩))
            go_region_with (first | (go_at_call 168; refine (hlo _).mono ?_; rintro e w' ⟨rfl, hB2⟩))
            go_wp2
            go_ret3
            exact ⟨by repeat (first | exact below_then (pw_below_drewN A1.out _) A1.out.size hB2 | apply pw_below_drewN | apply below_drew1), _, _, rfl⟩
      · have g1 : decide ((k : Int) < (l.length : Int)) = false := decide_eq_false (by omega)
        have hltz : ¬ ((k : Int) < (l.length : Int)) := by omega
        rcases HZ.out with ⟨z, zo⟩ | ⟨z, zo⟩ | ⟨z1, z2, zo⟩
        · subst zo
          subst z
          go_wp2
          go_ret3
          exact ⟨by repeat (first | exact A1.out | apply pw_below_drewN | apply below_drew1), by first | rfl | exact ⟨none, 0, rfl⟩⟩
        · subst zo
          have zk1 : ((k : Int) == 0) = false := beq_eq_false_iff_ne.2 (by omega)
          have zk2 : ¬ k = 0 := by omega
          have zk3 : decide ((20 : Int) < (k : Int)) = true := decide_eq_true (by omega)
          have zk4 : (20 : Int) < (k : Int) := by omega
          go_wp2
          go_ret3
          exact ⟨by repeat (first | exact A1.out | apply pw_below_drewN | apply below_drew1), by first | rfl | exact ⟨none, 0, rfl⟩⟩
        · have zk1 : ((k : Int) == 0) = false := beq_eq_false_iff_ne.2 (by omega)
          have zk2 : ¬ k = 0 := by omega
          have zk3 : decide ((20 : Int) < (k : Int)) = false := decide_eq_false (by omega)
          have zk4 : ¬ (20 : Int) < (k : Int) := by omega
          have hlt := letter_any ((l.getD 0 0).toNat : Int)
          rw [zo] at hlt
          have hc0 : wr.cell? ⟨B, 0, none⟩ = some (.int .u8 ((l.getD 0 0).toNat : Int)) := (A1.out.cell hB).trans (HC.out 0 (by omega))
          have hl0 : (0 : Int) < (l.length : Int) := by omega
          clear zo HZ
          generalize ((l.getD 0 0).toNat : Int) = y at hlt hc0
          cases ok with
          | false =>
            go_wp2_with (first | (go_at_call 167; refine (hlt _).mono ?_; rintro e w' ⟨rfl, ⟨nd2, rfl⟩⟩))
            go_ret3
            exact ⟨by repeat (first | exact A1.out | apply pw_below_drewN | apply below_drew1), by first | rfl | exact ⟨none, 0, rfl⟩⟩
          | true =>
            have hcv : ∀ n, (convert 97 9 (.slice (some ⟨B, 0, none⟩) k cap)).run Tryz.prog (wr.drewN n) = .ok (.string ⟨(l.take k).toArray⟩) (wr.drewN n) := fun n => cv_take l B cap k (wr.drewN n) hml (fun j hj => (A1.out.cell hB).trans (HC.out j hj))
            have hlo := fun W => lower_any (⟨(l.take k).toArray⟩ : ByteArray) W (by rw [Lib.size_eq]; simp; omega)
            rw [show (⟨(l.take k).toArray⟩ : ByteArray).data.toList = l.take k from by simp] at hlo
            rw [HT.out] at hlo
            generalize (⟨(l.take k).toArray⟩ : ByteArray) = U at hlo hcv
            go_wp2_with (first | (go_at_call 167; refine (hlt _).mono ?_; rintro e w' ⟨rfl, ⟨nd2, rfl⟩⟩) | (go_at_call 168; refine (hlo _).mono ?_; rintro e w' ⟨rfl, hB2⟩))
            go_region_with (first | (go_at_call 168; refine (hlo _).mono ?_; rintro e w' ⟨rfl, hB2⟩))
            go_wp2
            go_ret3
            exact ⟨by repeat (first | exact below_then (pw_below_drewN A1.out _) A1.out.size hB2 | apply pw_below_drewN | apply below_drew1), _, _, rfl⟩
/-- a name: letters, digits, dashes, small, a letter first, at most 20 -/
def nameV (l : List UInt8) : Bool := nameOk l && (decide (lead l = l.length) && ((lowTV (l.take (lead l))).toList == (⟨l.toArray⟩ : ByteArray).toList))
set_option maxHeartbeats 4000000 in
set_option maxRecDepth 400000 in
theorem Name_any (s : ByteArray) (w : World) (hs : s.size < 4294967281) :
    Calls Tryz.prog 94 #[.string s] w fun e w' => e = .returned (.bool (nameV s.data.toList)) ∧ Below w.heap.size w w' := by
  have hconv := Lib.run_convert_string_bytes (P := Tryz.prog) w 9 97 5 s Tryz.underlying9 Tryz.underlying97 Tryz.underlying5
  have h0 := TAt.start s w 5
  have hsz : w.heap.size < (Lib.bytesWorld w 5 s).heap.size := by rw [Lib.bytesWorld_size]; omega
  obtain ⟨W1, hW1⟩ : ∃ W1, Lib.bytesWorld w 5 s = W1 := ⟨_, rfl⟩
  obtain ⟨cap, hcap⟩ : ∃ cap, grownCap w s.size 0 5 = cap := ⟨_, rfl⟩
  rw [hW1] at h0 hconv hsz
  rw [hcap] at hconv
  have hcl : s.data.toList.length = s.size := (Lib.size_eq s).symm
  have hcp : s.size ≤ cap := by
    rw [← hcap]
    exact grownCap_ge _ _ _ _
  have hname := name_any s.data.toList w.heap.size cap W1 (fun j hj => by
    rw [(h0.1 j (by omega)).1]
    unfold tAt
    rw [if_neg (by omega)]) hsz (by omega) (by omega)
  rw [hcl] at hname
  have H0 : Aside (TAt s w.heap.size w W1 0) := h0
  have hB0 : Below w.heap.size w W1 := h0.2
  obtain ⟨v, hv⟩ : ∃ v, nameV s.data.toList = v := ⟨_, rfl⟩
  have HV : Aside (nameV s.data.toList = v) := hv
  rw [hv]
  have hll := lead_le s.data.toList
  rw [hcl] at hll
  obtain ⟨m, hm⟩ : ∃ m, lead s.data.toList = m := ⟨_, rfl⟩
  obtain ⟨T, hT⟩ : ∃ T, lowTV (s.data.toList.take m) = T := ⟨_, rfl⟩
  have HM : Aside (lead s.data.toList = m ∧ lowTV (s.data.toList.take m) = T) := ⟨hm, hT⟩
  rw [hm] at hname hll
  rw [hT] at hname
  clear hW1 hcap h0 hv hm hT
  cases hn : nameOk s.data.toList with
  | false =>
    have HN : Aside (nameOk s.data.toList = false) := hn
    rw [hn] at hname
    simp only [Bool.false_eq_true, if_false] at hname
    clear hn
    go_enter Tryz.func94, Tryz.ntmps94
    go_wp2_with (first | (go_at_call 134; refine hname.mono ?_; rintro e w' ⟨hB, A, c, rfl⟩))
    go_ret
    refine ⟨?_, below_then hB0 (Nat.le_of_lt hsz) hB⟩
    rw [← HV.out]
    unfold nameV
    rw [HN.out]
    rfl
  | true =>
    have HN : Aside (nameOk s.data.toList = true) := hn
    rw [hn] at hname
    simp only [if_true] at hname
    clear hn
    have hq : (((s.size - m : Nat) : Int) == 0) = decide (m = s.size) := by
      rw [Bool.eq_iff_iff, beq_iff_eq, decide_eq_true_eq]
      omega
    by_cases hms : m = s.size
    · rw [decide_eq_true hms] at hq
      go_enter Tryz.func94, Tryz.ntmps94
      go_wp2_with (first | (go_at_call 134; refine hname.mono ?_; rintro e w' ⟨hB, A, c, rfl⟩))
      go_ret
      refine ⟨?_, below_then hB0 (Nat.le_of_lt hsz) hB⟩
      rw [← HV.out]
      unfold nameV
      rw [HN.out, HM.out.1, hcl, decide_eq_true hms, HM.out.2]
      rfl
    · rw [decide_eq_false hms] at hq
      go_enter Tryz.func94, Tryz.ntmps94
      go_wp2_with (first | (go_at_call 134; refine hname.mono ?_; rintro e w' ⟨hB, A, c, rfl⟩))
      go_ret
      refine ⟨?_, below_then hB0 (Nat.le_of_lt hsz) hB⟩
      rw [← HV.out]
      unfold nameV
      rw [HN.out, HM.out.1, hcl, decide_eq_false hms]
      rfl
end Go.Proofs.Tok
set_option linter.unusedVariables false
namespace Go.Proofs.Tok
open Go.RowKit Go.Lib Go.Shelf
def growRen : Go.Shelf.Ren := ⟨fun | 4 => 133 | n => n, fun | 0 => 0 | 3 => 3 | 4 => 4 | 9 => 9 | 20 => 20 | 22 => 76 | 25 => 9 | n => n, fun | n => n⟩
theorem growLays : Lays8.n4 Tryz.prog growRen := {
  mixed := by kernel_rfl
  f4 := ⟨Tryz.f133.name, by kernel_rfl, Tryz.func133.trans (congrArg some (by kernel_rfl))⟩
  t0 := Tryz.underlying0
  a0 := Tryz.isAgg0
  z0 := Tryz.sizeOf0
  v0 := Tryz.zeroValue0
  t3 := Tryz.underlying3
  a3 := Tryz.isAgg3
  z3 := Tryz.sizeOf3
  v3 := Tryz.zeroValue3
  t4 := Tryz.underlying4
  a4 := Tryz.isAgg4
  z4 := Tryz.sizeOf4
  v4 := Tryz.zeroValue4
  t9 := Tryz.underlying9
  a9 := Tryz.isAgg9
  z9 := Tryz.sizeOf9
  v9 := Tryz.zeroValue9
  t20 := Tryz.underlying20
  a20 := Tryz.isAgg20
  z20 := Tryz.sizeOf20
  v20 := Tryz.zeroValue20
  t22 := Tryz.underlying76
  a22 := Tryz.isAgg76
  z22 := Tryz.sizeOf76
  v22 := Tryz.zeroValue76 }
end Go.Proofs.Tok
set_option linter.unusedSimpArgs false
namespace Go.Proofs.Tok
open Go.RowKit Go.Lib Go.Proofs.YtolfpgccebdlpaaGreatDoorW.PrintWords Go.Proofs.YtolfpgccebdlpaaGreatDoorW.PrintLast Go.Proofs.YtolfpgccebdlpaaGreatDoorW.PrintMore
theorem infoS : (Tryz.prog.info? 9).map (fun i => (i.zero, i.size, i.bytes)) = some (some (.string ⟨#[]⟩), 1, 16) := by kernel_rfl
theorem grow_strs (n : Nat) (w : World) (hn : n * 16 ≤ 140737488355328) :
    Calls Tryz.prog 133 #[.slice none 0 0, .int .i64 n] w fun e w' => ∃ v, e = .returned v ∧ Kd.R Kd.string 9 w' w.heap.size (fun _ => True) v [] ∧ Below w.heap.size w w' := by
  by_cases h0 : n = 0
  · subst h0
    refine (Any8.slices_Grow_room growLays none 0 0 0 w (Nat.le_refl _) (by omega) (by omega) (Nat.le_refl _)).mono ?_
    rintro e w' ⟨rfl, rfl⟩
    exact ⟨_, rfl, Kd.R_nil _ _ _ _ _, Below.refl _ _⟩
  · obtain ⟨i0, hi, hz⟩ := Option.map_eq_some_iff.1 infoS
    simp only [Prod.mk.injEq] at hz
    obtain ⟨hz0, hz1, hz2⟩ := hz
    refine (Any8.slices_Grow_grow growLays i0 _ hi hz0 (by omega) none 0 0 n [] w (Nat.le_refl _) (by omega) (by rw [hz2]; omega) (by omega) (by simp) (fun _ => rfl) (fun a ha => by cases ha)).mono ?_
    rintro e w' ⟨rfl, rfl⟩
    have hge := grownCap_ge w (0 + n) 0 9
    have hle := grownCap_le_maxLen w (0 + n) 0 9 (by simp only [maxLen]; omega)
    refine ⟨_, rfl, ⟨fun _ _ => trivial, [], ⟨rfl, .inr ⟨w.heap.size, _, _, rfl, Nat.le_refl _, heap_alloc_new w.drew _, Nat.zero_le _, hle, ?_, by simp⟩⟩, Reps.none _ _⟩, ?_⟩
    · show _ = grownCap w (0 + n) 0 9 * 1
      have hg : growRen.t 25 = 9 := rfl
      have hc : (Value.string { data := #[] }).cells.size = 1 := rfl
      simp only [Builtin.zeroCells, hg]
      simp [hc]
      simp at hge
      omega
    · repeat (first | exact Below.refl _ _ | apply below_alloc | apply below_drew1)
set_option maxHeartbeats 4000000 in
set_option maxRecDepth 400000 in
theorem concat_any (a b : List ByteArray) (A0 A1 : Option Addr) (c0 c1 S : Nat) (w : World) (hS : S < w.heap.size) (h0 : w.cell? ⟨S, 0, none⟩ = some (.slice A0 a.length c0)) (h1 : w.cell? ⟨S, 1, none⟩ = some (.slice A1 b.length c1))
    (C0 : Kd.C Kd.string w A0 a.length a) (C1 : Kd.C Kd.string w A1 b.length b) (hsz : (a.length + b.length) * 16 ≤ 140737488355328) :
    Calls Tryz.prog 93 #[.slice (some ⟨S, 0, none⟩) 2 2] w fun e w' => ∃ v, e = .returned v ∧ Kd.R Kd.string 9 w' w.heap.size (fun _ => True) v (a ++ b) ∧ Below w.heap.size w w' := by
  have D0 := Aside0.mk C0
  have D1 := Aside0.mk C1
  have LS := Aside0.mk hsz
  have z0 : wrap64 (0 + (a.length : Int)) = (a.length : Int) := by unfold wrap64; omega
  have z1 : wrap64 ((a.length : Int) + (b.length : Int)) = ((a.length + b.length : Nat) : Int) := by unfold wrap64; omega
  have hgr := grow_strs (a.length + b.length)
  clear C0 C1 hsz
  go_enter Tryz.func93, Tryz.ntmps93
  go_wp2
  go_loopw [3, 5, 11, 12, 13, 14, 15, 16, 17, 18, 19, 20, 22] (fun s _ i _ _ _ _ _ _ _ _ _ _ wr => ∃ k : Nat, k ≤ 2 ∧ i = .int .i64 k ∧ s = .int .i64 (if k = 0 then 0 else if k = 1 then (a.length : Int) else ((a.length + b.length : Nat) : Int)) ∧ Aside0 (Below w.heap.size w wr)) (fun _ _ i _ _ _ _ _ _ _ _ _ _ _ => 2 - (RowKit.intOf i).toNat)
  case atStart => exact ⟨0, by omega, rfl, rfl, ⟨Below.refl _ _⟩⟩
  case round =>
    obtain ⟨k, hk, rfl, rfl, B1⟩ := hrel
    have hls := LS.out
    have hk3 : k = 0 ∨ k = 1 ∨ k = 2 := by omega
    rcases hk3 with rfl | rfl | rfl
    · have hc0 : wr.cell? ⟨S, 0, none⟩ = some (.slice A0 a.length c0) := (B1.out.cell hS).trans h0
      have hn : decide (wrap64 (a.length : Int) < 0) = false := decide_eq_false (by unfold wrap64; omega)
      have hn2 : ¬ (wrap64 (a.length : Int) < 0) := by unfold wrap64; omega
      have hw : wrap64 (a.length : Int) = (a.length : Int) := by unfold wrap64; omega
      go_wp2
      exact ⟨⟨1, by omega, by go_num, by first | rfl | (rw [hw]; rfl) | (rw [z0]; rfl), B1⟩, by simp [RowKit.intOf]⟩
    · have hc1 : wr.cell? ⟨S, 1, none⟩ = some (.slice A1 b.length c1) := (B1.out.cell hS).trans h1
      have hn : decide (wrap64 ((a.length : Int) + (b.length : Int)) < 0) = false := decide_eq_false (by unfold wrap64; omega)
      have hn2 : ¬ (wrap64 ((a.length : Int) + (b.length : Int)) < 0) := by unfold wrap64; omega
      go_wp2
      exact ⟨⟨2, by omega, by go_num, by first | rfl | (rw [z1]; rfl), B1⟩, by simp [RowKit.intOf]⟩
    · clear hls
      go_wp2_with (first | (go_at_call 133; refine (hgr _ LS.out).mono ?_; rintro e w' ⟨vg, rfl, hR, hB⟩; have HG := Aside0.mk hR; have HBG := Aside0.mk hB; clear hR hB))
      have HB1 := Aside0.mk (below_then B1.out B1.out.size HBG.out)
      have HG1 := Aside0.mk (Kd.R_lower HG.out B1.out.size)
      clear HG HBG B1
      go_loopw [6, 8, 27, 28, 29, 30, 31, 32, 33, 34] (fun v _ i _ _ _ _ _ _ _ wr => ∃ k : Nat, k ≤ 2 ∧ i = .int .i64 k ∧ Aside0 (Kd.R Kd.string 9 wr w.heap.size (fun _ => True) v (if k = 0 then [] else if k = 1 then a else a ++ b)) ∧ Aside0 (Below w.heap.size w wr)) (fun _ _ i _ _ _ _ _ _ _ _ => 2 - (RowKit.intOf i).toNat)
      case atStart => exact ⟨0, by omega, rfl, HG1, HB1⟩
      case round =>
        obtain ⟨k, hk, rfl, HR, B2⟩ := hrel
        have hk3 : k = 0 ∨ k = 1 ∨ k = 2 := by omega
        rcases hk3 with rfl | rfl | rfl
        · have hc0 : wr.cell? ⟨S, 0, none⟩ = some (.slice A0 a.length c0) := (B2.out.cell hS).trans h0
          go_wp2_with (first | ((with_reducible refine gate_builtin (b := .append) (xs := #[.tmp 31, .tmp 32]) rfl ?_); at_builtin; refine Kd.R_append_rows Kd.string (w0 := w) w.heap.size rfl (.tmp 31) (.tmp 32) 76 9 (.string ⟨#[]⟩) 16 rfl Tryz.underlying76 infoS rfl (by decide) (by omega) u6 [] a _ _ _ (fun _ => True) (fun _ => False) rfl rfl HR.out ?aR (fun _ _ h => h) (fun _ h => h.elim) (fun _ _ => trivial) B2.out B2.out.size ?aL ?_; (case aR => exact Kd.C_below D0.out B2.out); (case aL => have := LS.out; first | (simp; omega) | omega); intro v2 w2 ho hb hg hat; have n0_ := Aside0.mk hb; have n1_ := Aside0.mk ho; clear B2 HR ho hb hg hat))
          exact ⟨⟨1, by omega, by go_num, n1_, n0_⟩, by simp [RowKit.intOf]⟩
        · have hc1 : wr.cell? ⟨S, 1, none⟩ = some (.slice A1 b.length c1) := (B2.out.cell hS).trans h1
          go_wp2_with (first | ((with_reducible refine gate_builtin (b := .append) (xs := #[.tmp 31, .tmp 32]) rfl ?_); at_builtin; refine Kd.R_append_rows Kd.string (w0 := w) w.heap.size rfl (.tmp 31) (.tmp 32) 76 9 (.string ⟨#[]⟩) 16 rfl Tryz.underlying76 infoS rfl (by decide) (by omega) u6 a b _ _ _ (fun _ => True) (fun _ => False) rfl rfl HR.out ?aR (fun _ _ h => h) (fun _ h => h.elim) (fun _ _ => trivial) B2.out B2.out.size ?aL ?_; (case aR => exact Kd.C_below D1.out B2.out); (case aL => have := LS.out; first | (simp; omega) | omega); intro v2 w2 ho hb hg hat; have n0_ := Aside0.mk hb; have n1_ := Aside0.mk ho; clear B2 HR ho hb hg hat))
          exact ⟨⟨2, by omega, by go_num, n1_, n0_⟩, by simp [RowKit.intOf]⟩
        · go_wp2
          go_ret
          exact ⟨_, rfl, HR.out, B2.out⟩
end Go.Proofs.Tok
namespace Go.Proofs.Tok
open Go.RowKit Go.Lib Go.Proofs.YtolfpgccebdlpaaGreatDoorW.PrintWords Go.Proofs.YtolfpgccebdlpaaGreatDoorW.PrintLast Go.Proofs.YtolfpgccebdlpaaGreatDoorW.PrintMore
def noName (s : ByteArray) : Bool := !nameV s.data.toList
set_option maxHeartbeats 2000000 in
set_option maxRecDepth 400000 in
theorem mayf_any (s : ByteArray) (w : World) (hs : s.size < 4294967281) :
    Calls Tryz.prog 96 #[.string s] w fun e w' => e = .returned (.bool (noName s)) ∧ Below w.heap.size w w' := by
  have hn := fun w => Name_any s w hs
  unfold noName
  generalize nameV s.data.toList = b at hn ⊢
  go_enter Tryz.func96, Tryz.ntmps96
  go_wp2_with (first | (go_at_call 94; refine (hn _).mono ?_; rintro e w' ⟨rfl, hB⟩))
  go_ret
  exact ⟨rfl, hB⟩
set_option maxHeartbeats 4000000 in
set_option maxRecDepth 400000 in
theorem index_strs (xs : List ByteArray) (A : Option Addr) (c : Nat) (w : World) (C : Kd.C Kd.string w A xs.length xs) (hl : xs.length ≤ 8796093022208) (hs : ∀ s ∈ xs, s.size < 4294967281) :
    Calls Tryz.prog 135 #[.slice A xs.length c, .func (.func 96) #[] #[]] w fun e w' => Below w.heap.size w w' ∧ ∃ i : Int, e = .returned (.int .i64 i) ∧ decide (0 ≤ i) = xs.any noName := by
  have C0 := Aside0.mk C
  have HS := Aside0.mk hs
  clear C hs
  go_enter Tryz.func135, Tryz.ntmps135
  go_wp2
  go_loopw [5, 8, 9, 10, 11, 12, 13, 14, 15, 16, 18] (fun _ i _ _ _ _ _ _ _ _ _ wr => ∃ k : Nat, k ≤ xs.length ∧ i = .int .i64 k ∧ Aside0 ((xs.take k).any noName = false) ∧ Aside0 (Below w.heap.size w wr)) (fun _ i _ _ _ _ _ _ _ _ _ _ => xs.length - (RowKit.intOf i).toNat)
  case atStart => exact ⟨0, Nat.zero_le _, rfl, ⟨rfl⟩, ⟨Below.refl _ _⟩⟩
  case round =>
    obtain ⟨k, hk, rfl, N1, B1⟩ := hrel
    by_cases hlt : k < xs.length
    · have g1 : decide ((k : Int) < (xs.length : Int)) = true := decide_eq_true (by omega)
      obtain ⟨ad, e, hc⟩ := Kd.at_string C0.out (k : Int) (by omega) (by omega)
      subst e
      have hg : rdOf ByteArray.empty xs (k : Int) = xs[k] := by
        unfold rdOf
        rw [Int.toNat_natCast, List.getD, List.getElem?_eq_getElem hlt]
        rfl
      rw [hg, Int.toNat_natCast] at hc
      have hc2 : wr.cell? (ad.add k) = some (.string xs[k]) := (B1.out.cell (World.block_lt_of_cell? _ _ hc)).trans hc
      have hx := fun w => mayf_any xs[k] w (HS.out _ (List.getElem_mem hlt))
      have T1 : Aside0 ((xs.take (k + 1)).any noName = ((xs.take k).any noName || noName xs[k])) := ⟨by rw [List.take_succ_eq_append_getElem hlt, List.any_append]; simp⟩
      have T2 : Aside0 (noName xs[k] = true → xs.any noName = true) := ⟨fun h => List.any_eq_true.2 ⟨xs[k], List.getElem_mem hlt, h⟩⟩
      generalize xs[k] = x at hx hc2 T1 T2
      obtain ⟨b, hb⟩ : ∃ b, noName x = b := ⟨_, rfl⟩
      have HN := Aside0.mk hb
      rw [hb] at hx
      clear hc hg hb
      cases b with
      | true =>
        go_wp2_with (first | (go_at_call 96; refine (hx _).mono ?_; rintro e w' ⟨rfl, hB⟩))
        go_ret
        exact ⟨below_then B1.out B1.out.size hB, _, rfl, by rw [T2.out HN.out]; simp⟩
      | false =>
        go_wp2_with (first | (go_at_call 96; refine (hx _).mono ?_; rintro e w' ⟨rfl, hB⟩))
        exact ⟨⟨k + 1, by omega, by go_num, ⟨by rw [T1.out, N1.out, HN.out]; rfl⟩, ⟨below_then B1.out B1.out.size hB⟩⟩, by simp [RowKit.intOf]; omega⟩
    · obtain rfl : k = xs.length := by omega
      have g1 : decide ((xs.length : Int) < (xs.length : Int)) = false := decide_eq_false (by omega)
      have hN := N1.out
      rw [List.take_length] at hN
      have N2 := Aside0.mk hN
      clear hN N1
      go_wp2
      go_ret
      exact ⟨B1.out, _, rfl, by rw [N2.out]; rfl⟩
set_option maxHeartbeats 2000000 in
set_option maxRecDepth 400000 in
theorem contains_strs (xs : List ByteArray) (A : Option Addr) (c : Nat) (w : World) (C : Kd.C Kd.string w A xs.length xs) (hl : xs.length ≤ 8796093022208) (hs : ∀ s ∈ xs, s.size < 4294967281) :
    Calls Tryz.prog 95 #[.slice A xs.length c, .func (.func 96) #[] #[]] w fun e w' => e = .returned (.bool (xs.any noName)) ∧ Below w.heap.size w w' := by
  have hi := index_strs xs A c w C hl hs
  clear C hs
  generalize xs.any noName = r at hi ⊢
  go_enter Tryz.func95, Tryz.ntmps95
  go_wp2_with (first | (go_at_call 135; refine hi.mono ?_; rintro e w' ⟨hB, i, rfl, hd⟩))
  go_ret
  exact ⟨by rw [← hd]; rfl, hB⟩
end Go.Proofs.Tok
set_option linter.unusedVariables false
set_option linter.unusedSimpArgs false
namespace Go.Proofs.Tok
open Go.Proofs.Rgn Go.RowKit Go.Lib Go.Proofs.YtolfpgccebdlpaaGreatDoorW.PrintWords Go.Proofs.YtolfpgccebdlpaaGreatDoorW.PrintLast Go.Proofs.YtolfpgccebdlpaaGreatDoorW.PrintMore
def truthV (b : Bool) : Int := if b = true then 1 else 0
set_option maxHeartbeats 2000000 in
set_option maxRecDepth 400000 in
theorem truth_any (b : Bool) (w : World) : Calls Tryz.prog 59 #[.bool b] w fun e w' => e = .returned (.int .i64 (truthV b)) ∧ w' = w := by
 cases b with
 | true =>
  go_enter Tryz.func59, Tryz.ntmps59
  go_wp2
  go_ret
  exact ⟨rfl, rfl⟩
 | false =>
  go_enter Tryz.func59, Tryz.ntmps59
  go_wp2
  go_ret
  exact ⟨rfl, rfl⟩
theorem alloc_size (w : World) (o : Obj) : (w.alloc o).heap.size = w.heap.size + 1 := World.size_alloc _ _
theorem alloc_cell (w : World) (cs : Array Value) (e j : Nat) (v : Value) (h : cs[j]? = some v) : (w.alloc (.cells cs e)).cell? ⟨w.heap.size, j, none⟩ = some v := (World.cell?_alloc_new w cs e j).trans h
structure Since (b : Nat) (w0 W : World) : Prop where
 bel : Below w0.heap.size w0 W
 lt : b < w0.heap.size
theorem Since.refl {b : Nat} {w0 : World} (h : b < w0.heap.size) : Since b w0 w0 := ⟨Below.refl _ _, h⟩
theorem held_next {b : Nat} {u v x : Value} {w0 W W2 : World} (h : W.cell? ⟨b, 0, none⟩ = some u ∧ W.cell? ⟨b, 3, none⟩ = some v ∧ W.cell? ⟨b, 4, none⟩ = some x ∧ Since b w0 W) (hb : Below W.heap.size W W2) : W2.cell? ⟨b, 0, none⟩ = some u ∧ W2.cell? ⟨b, 3, none⟩ = some v ∧ W2.cell? ⟨b, 4, none⟩ = some x ∧ Since b w0 W2 :=
 ⟨(hb.cell (World.block_lt_of_cell? _ _ h.1)).trans h.1, (hb.cell (World.block_lt_of_cell? _ _ h.2.1)).trans h.2.1, (hb.cell (World.block_lt_of_cell? _ _ h.2.2.1)).trans h.2.2.1, ⟨below_then h.2.2.2.1 h.2.2.2.1.size hb, h.2.2.2.2⟩⟩
def mayV (t : ByteArray) (l1 l2 : List ByteArray) (b3 b4 : Bool) : Bool := (decide (t.data.toList = []) || nameV t.data.toList) && (!(l1 ++ l2).any noName && decide (((l1 ++ l2).length : Int) + truthV b3 + truthV b4 ≤ 8))
theorem may_sum (l1 l2 : List ByteArray) (b3 b4 : Bool) (h : (l1.length + l2.length) * 16 ≤ 140737488355328) : wrap64 (wrap64 ((l1.length : Int) + (l2.length : Int) + truthV b3) + truthV b4) = ((l1 ++ l2).length : Int) + truthV b3 + truthV b4 := by
 rw [List.length_append]
 cases b3 <;> cases b4 <;> simp only [truthV, if_true, if_false, Bool.false_eq_true] <;> unfold wrap64 <;> omega
attribute [local go_sem] Act.put List.setIfInBounds_toArray List.set_cons_zero List.set_cons_succ i64_w i32_w
theorem may_tab : rtab .any (opsOf Tryz.f52 2) = rtab .any (opsOf Tryz.f52 2) := rfl
set_option maxHeartbeats 4000000 in
set_option maxRecDepth 400000 in
theorem may_any (t : ByteArray) (A1 : Option Addr) (c1 : Nat) (l1 : List ByteArray) (A2 : Option Addr) (c2 : Nat) (l2 : List ByteArray) (b3 b4 : Bool) (w : World) (C1 : Kd.C Kd.string w A1 l1.length l1) (C2 : Kd.C Kd.string w A2 l2.length l2)
  (hl : (l1.length + l2.length) * 16 ≤ 140737488355328) (ht : t.size < 4294967281) (hs : ∀ s ∈ l1 ++ l2, s.size < 4294967281) :
  Calls Tryz.prog 52 #[.agg #[.string t, .slice A1 l1.length c1, .slice A2 l2.length c2, .bool b3, .bool b4]] w fun e w' => e = .returned (.bool (mayV t l1 l2 b3 b4)) ∧ Below w.heap.size w w' := by
 have D1 := Aside0.mk C1
 have D2 := Aside0.mk C2
 have HL := Aside0.mk hl
 have HS := Aside0.mk hs
 clear C1 C2 hl hs
 have hu44 := Tryz.underlying80
 obtain ⟨w0, hw0⟩ : ∃ w0, w.alloc (.cells #[.string t, .slice A1 l1.length c1, .slice A2 l2.length c2, .bool b3, .bool b4] 80) = w0 := ⟨_, rfl⟩
 obtain ⟨w1, hw1⟩ : ∃ w1, w0.alloc (.cells #[.slice A1 l1.length c1, .slice A2 l2.length c2] 76) = w1 := ⟨_, rfl⟩
 have b0 : Below w.heap.size w w0 := by rw [← hw0]; exact below_alloc (Below.refl _ _) _
 have sz0 : w0.heap.size = w.heap.size + 1 := by rw [← hw0]; exact alloc_size _ _
 have b1 : Below w0.heap.size w0 w1 := by rw [← hw1]; exact below_alloc (Below.refl _ _) _
 have sz1 : w1.heap.size = w.heap.size + 2 := by rw [← hw1, alloc_size, sz0]
 have k0 : ∀ j v, (#[.string t, .slice A1 l1.length c1, .slice A2 l2.length c2, .bool b3, .bool b4] : Array Value)[j]? = some v → w1.cell? ⟨w.heap.size, j, none⟩ = some v := by
  intro j v hj
  refine (b1.cell (p := ⟨w.heap.size, j, none⟩) (by show w.heap.size < _; omega)).trans ?_
  rw [← hw0]
  exact alloc_cell _ _ _ _ _ hj
 have k1 : ∀ j v, (#[.slice A1 l1.length c1, .slice A2 l2.length c2] : Array Value)[j]? = some v → w1.cell? ⟨w.heap.size + 1, j, none⟩ = some v := by
  intro j v hj
  rw [← hw1, ← sz0]
  exact alloc_cell _ _ _ _ _ hj
 have B1 := Aside0.mk (below_then b0 b0.size b1)
 have hcc := concat_any l1 l2 A1 A2 c1 c2 (w.heap.size + 1) w1 (by omega) (k1 0 _ rfl) (k1 1 _ rfl) (Kd.C_below D1.out B1.out) (Kd.C_below D2.out B1.out) HL.out
 have K0 := Aside0.mk k0
 have SZ := Aside0.mk sz1
 have E1 := Aside0.mk hw1
 have E0 := Aside0.mk hw0
 clear k0 k1 b0 b1 sz0 sz1 hw0 hw1
 go_enter Tryz.func52, Tryz.ntmps52
 go_wp2_with (first | (go_at_call 93; rw [E0.out, E1.out]; refine hcc.mono ?_; rintro e w' ⟨v, rfl, hR, hB⟩; obtain ⟨A3, c3, e3⟩ := Kd.R_slice hR; subst e3; have C3 := Aside0.mk (Kd.R_reads' hR).2.2; have K2 := Aside0.mk (fun (j : Nat) (v : Value) (hj : (#[.string t, .slice A1 l1.length c1, .slice A2 l2.length c2, .bool b3, .bool b4] : Array Value)[j]? = some v) => (hB.cell (p := ⟨w.heap.size, j, none⟩) (by show w.heap.size < _; rw [SZ.out]; omega)).trans (K0.out j v hj)); have HB := Aside0.mk (below_then B1.out B1.out.size hB); have hsz := hB.size; rw [SZ.out] at hsz; clear hR hB))
 have h0 : w'.cell? ⟨w.heap.size, 0, none⟩ = some (.string t) := K2.out 0 _ rfl
 have h3 : w'.cell? ⟨w.heap.size, 3, none⟩ = some (.bool b3) := K2.out 3 _ rfl
 have h4 : w'.cell? ⟨w.heap.size, 4, none⟩ = some (.bool b4) := K2.out 4 _ rfl
 have hsz1 : w.heap.size < w'.heap.size := by omega
 have hcf : ∀ W, (W.cell? ⟨w.heap.size, 0, none⟩ = some (.string t) ∧ W.cell? ⟨w.heap.size, 3, none⟩ = some (.bool b3) ∧ W.cell? ⟨w.heap.size, 4, none⟩ = some (.bool b4) ∧ Since w.heap.size w' W) → Calls Tryz.prog 95 #[.slice A3 (l1.length + l2.length) c3, .func (.func 96) #[] #[]] W fun e w' => e = .returned (.bool ((l1 ++ l2).any noName)) ∧ Below W.heap.size W w' := by
  intro W hW
  have := contains_strs (l1 ++ l2) A3 c3 W (Kd.C_below C3.out hW.2.2.2.1) (by have := HL.out; rw [List.length_append]; omega) HS.out
  rwa [List.length_append] at this
 have hnm := fun W => Name_any t W ht
 have HM : Aside0 (mayV t l1 l2 b3 b4 = ((decide (t.data.toList = []) || nameV t.data.toList) && (!(l1 ++ l2).any noName && decide (((l1 ++ l2).length : Int) + truthV b3 + truthV b4 ≤ 8)))) := ⟨rfl⟩
 clear h0 h3 h4
 have h0 : w'.cell? ⟨w.heap.size, 0, none⟩ = some (.string t) := K2.out 0 _ rfl
 have h3 : w'.cell? ⟨w.heap.size, 3, none⟩ = some (.bool b3) := K2.out 3 _ rfl
 have h4 : w'.cell? ⟨w.heap.size, 4, none⟩ = some (.bool b4) := K2.out 4 _ rfl
 obtain ⟨bn, hbn⟩ : ∃ bn, nameV t.data.toList = bn := ⟨_, rfl⟩
 obtain ⟨ba, hba⟩ : ∃ ba, (l1 ++ l2).any noName = ba := ⟨_, rfl⟩
 rw [hbn] at hnm
 rw [hba] at hcf
 have HN := Aside0.mk hbn
 have HA := Aside0.mk hba
 clear hbn hba
 by_cases hE : t.data.toList = []
 ·have e1 : (t.toList == ([] : List UInt8)) = true := by rw [Lib.toList_data, hE]; rfl
  have e3 : (t.toList = []) = True := eq_true (by rw [Lib.toList_data, hE])
  have HE := Aside0.mk hE
  clear hE
  cases ba with
  | true =>
   refine start_ (n := 27) (S := (fun W => W.cell? ⟨w.heap.size, 0, none⟩ = some (.string t) ∧ W.cell? ⟨w.heap.size, 3, none⟩ = some (.bool b3) ∧ W.cell? ⟨w.heap.size, 4, none⟩ = some (.bool b4) ∧ Since w.heap.size w' W)) (ds := []) (mB 27 0) (by kernel_rfl) rfl rfl ⟨h0, h3, h4, ⟨below_drew1 (Below.refl _ _), hsz1⟩⟩ (fun hHeld => ?_)
   refine with_tab may_tab (fun HT_ => ?_)
   refine on_ HT_.out 0 (mB 27 1) (h := ?_)
   refine take_ (i := 1) (N := (some 11)) (v := ?vv2) (a' := ?aa2) (mB 27 2) rfl rfl (take_of HT_.out (by kernel_rfl)) (fun _ _ _ h => h) (Or.inl ⟨by rfl, ?hy2⟩) hHeld ?ha2 ?hh2
   case hy2 => (intro w' hS; obtain ⟨hS0, hS3, hS4, hSb⟩ := hS; go_simp; try with_reducible rfl)
   case ha2 => (go_simp; rfl)
   refine on_ HT_.out 2 (mB 27 3) (h := ?_)
   refine on_ HT_.out 3 (mB 27 4) (h := ?_)
   refine off_ HT_.out 4 (mB 27 5) (h := ?_)
   refine off_ HT_.out 5 (mB 27 6) (h := ?_)
   refine off_ HT_.out 6 (mB 27 7) (h := ?_)
   refine on_ HT_.out 7 (mB 27 8) (h := ?_)
   refine on_ HT_.out 8 (mB 27 9) (h := ?_)
   refine on_ HT_.out 9 (mB 27 10) (h := ?_)
   refine one_ (i := 10) (N := (some 20)) (mB 27 11) rfl rfl (one_of HT_.out (by kernel_rfl)) (by decide) (fun K hK => ?_)
   refine goes_ Tryz.func95 (by kernel_rfl) rfl #[.slice A3 (l1.length + l2.length) c3, .func (.func 96) #[] #[]] (by rfl) rfl rfl (by (try simp only [List.map_toArray, List.map_cons, List.map_nil]); first | done | rfl) ?_
   refine (hcf _ hHeld).mono ?_
   rintro e w3 ⟨rfl, hB3⟩
   refine ⟨_, rfl, ?_⟩
   refine hK.out _ _ (held_next hHeld hB3) (fun hHeld => ?_)
   clear hK K
   refine norm_ (a' := ?aa11) ?ha11 ?hh11
   case ha11 => (show Act.put _ (some 20) _ = _; simp only [Act.put, List.setIfInBounds_toArray, List.set_cons_zero, List.set_cons_succ, i64_w, i32_w]; rfl)
   refine on_ HT_.out 11 (mB 27 12) (h := ?_)
   refine on_ HT_.out 12 (mB 27 13) (h := ?_)
   refine on_ HT_.out 13 (mB 27 14) (h := ?_)
   refine off_ HT_.out 14 (mB 27 15) (h := ?_)
   refine off_ HT_.out 15 (mB 27 16) (h := ?_)
   refine off_ HT_.out 16 (mB 27 17) (h := ?_)
   refine off_ HT_.out 17 (mB 27 18) (h := ?_)
   refine off_ HT_.out 18 (mB 27 19) (h := ?_)
   refine off_ HT_.out 19 (mB 27 20) (h := ?_)
   refine off_ HT_.out 20 (mB 27 21) (h := ?_)
   refine off_ HT_.out 21 (mB 27 22) (h := ?_)
   refine off_ HT_.out 22 (mB 27 23) (h := ?_)
   refine off_ HT_.out 23 (mB 27 24) (h := ?_)
   refine off_ HT_.out 24 (mB 27 25) (h := ?_)
   refine on_ HT_.out 25 (mB 27 26) (h := ?_)
   refine on_ HT_.out 26 (mB 27 27) (h := ?_)
   refine done_ (done_of HT_.out (by kernel_rfl)) ?_
   go_wp2
   go_ret
   have hSb := hHeld.2.2.2.1
   refine ⟨?_, below_then HB.out HB.out.size hSb⟩
   rw [HM.out, HN.out, HA.out]
   show Ending.returned (Value.bool false) = _
   simp [HE.out]
  | false =>
   refine start_ (n := 27) (S := (fun W => W.cell? ⟨w.heap.size, 0, none⟩ = some (.string t) ∧ W.cell? ⟨w.heap.size, 3, none⟩ = some (.bool b3) ∧ W.cell? ⟨w.heap.size, 4, none⟩ = some (.bool b4) ∧ Since w.heap.size w' W)) (ds := []) (mB 27 0) (by kernel_rfl) rfl rfl ⟨h0, h3, h4, ⟨below_drew1 (Below.refl _ _), hsz1⟩⟩ (fun hHeld => ?_)
   refine with_tab may_tab (fun HT_ => ?_)
   refine on_ HT_.out 0 (mB 27 1) (h := ?_)
   refine take_ (i := 1) (N := (some 11)) (v := ?vv30) (a' := ?aa30) (mB 27 2) rfl rfl (take_of HT_.out (by kernel_rfl)) (fun _ _ _ h => h) (Or.inl ⟨by rfl, ?hy30⟩) hHeld ?ha30 ?hh30
   case hy30 => (intro w' hS; obtain ⟨hS0, hS3, hS4, hSb⟩ := hS; go_simp; try with_reducible rfl)
   case ha30 => (go_simp; rfl)
   refine on_ HT_.out 2 (mB 27 3) (h := ?_)
   refine on_ HT_.out 3 (mB 27 4) (h := ?_)
   refine off_ HT_.out 4 (mB 27 5) (h := ?_)
   refine off_ HT_.out 5 (mB 27 6) (h := ?_)
   refine off_ HT_.out 6 (mB 27 7) (h := ?_)
   refine on_ HT_.out 7 (mB 27 8) (h := ?_)
   refine on_ HT_.out 8 (mB 27 9) (h := ?_)
   refine on_ HT_.out 9 (mB 27 10) (h := ?_)
   refine one_ (i := 10) (N := (some 20)) (mB 27 11) rfl rfl (one_of HT_.out (by kernel_rfl)) (by decide) (fun K hK => ?_)
   refine goes_ Tryz.func95 (by kernel_rfl) rfl #[.slice A3 (l1.length + l2.length) c3, .func (.func 96) #[] #[]] (by rfl) rfl rfl (by (try simp only [List.map_toArray, List.map_cons, List.map_nil]); first | done | rfl) ?_
   refine (hcf _ hHeld).mono ?_
   rintro e w3 ⟨rfl, hB3⟩
   refine ⟨_, rfl, ?_⟩
   refine hK.out _ _ (held_next hHeld hB3) (fun hHeld => ?_)
   clear hK K
   refine norm_ (a' := ?aa39) ?ha39 ?hh39
   case ha39 => (show Act.put _ (some 20) _ = _; simp only [Act.put, List.setIfInBounds_toArray, List.set_cons_zero, List.set_cons_succ, i64_w, i32_w]; rfl)
   refine on_ HT_.out 11 (mB 27 12) (h := ?_)
   refine on_ HT_.out 12 (mB 27 13) (h := ?_)
   refine on_ HT_.out 13 (mB 27 14) (h := ?_)
   refine on_ HT_.out 14 (mB 27 15) (h := ?_)
   refine on_ HT_.out 15 (mB 27 16) (h := ?_)
   refine on_ HT_.out 16 (mB 27 17) (h := ?_)
   refine take_ (i := 17) (N := (some 27)) (v := ?vv46) (a' := ?aa46) (mB 27 18) rfl rfl (take_of HT_.out (by kernel_rfl)) (fun _ _ _ h => h) (Or.inl ⟨by rfl, ?hy46⟩) hHeld ?ha46 ?hh46
   case hy46 => (intro w' hS; obtain ⟨hS0, hS3, hS4, hSb⟩ := hS; go_simp; try with_reducible rfl)
   case ha46 => (go_simp; rfl)
   refine on_ HT_.out 20 #[true, true, true, true, true, true, true, true, true, true, true, true, true, true, true, true, true, true, false, false, true, false, false, false, false, false, false] (h := ?_)
   refine take_ (i := 21) (N := (some 31)) (v := ?vv48) (a' := ?aa48) #[true, true, true, true, true, true, true, true, true, true, true, true, true, true, true, true, true, true, false, false, true, true, false, false, false, false, false] rfl rfl (take_of HT_.out (by kernel_rfl)) (fun _ _ _ h => h) (Or.inl ⟨by rfl, ?hy48⟩) hHeld ?ha48 ?hh48
   case hy48 => (intro w' hS; obtain ⟨hS0, hS3, hS4, hSb⟩ := hS; go_simp; try with_reducible rfl)
   case ha48 => (go_simp; rfl)
   refine one_ (i := 18) (N := (some 28)) #[true, true, true, true, true, true, true, true, true, true, true, true, true, true, true, true, true, true, true, false, true, true, false, false, false, false, false] rfl rfl (one_of HT_.out (by kernel_rfl)) (by decide) (fun K hK => ?_)
   refine goes_ Tryz.func59 (by kernel_rfl) rfl #[.bool b3] (by rfl) rfl rfl (by (try simp only [List.map_toArray, List.map_cons, List.map_nil]); first | done | rfl) ?_
   refine (truth_any _ _).mono ?_
   rintro e w4 ⟨rfl, rfl⟩
   refine ⟨_, rfl, ?_⟩
   refine hK.out _ _ (hHeld) (fun hHeld => ?_)
   clear hK K
   refine norm_ (a' := ?aa49) ?ha49 ?hh49
   case ha49 => (show Act.put _ (some 28) _ = _; simp only [Act.put, List.setIfInBounds_toArray, List.set_cons_zero, List.set_cons_succ, i64_w, i32_w]; rfl)
   refine on_ HT_.out 19 (mB 27 22) (h := ?_)
   refine one_ (i := 22) (N := (some 32)) (mB 27 23) rfl rfl (one_of HT_.out (by kernel_rfl)) (by decide) (fun K hK => ?_)
   refine goes_ Tryz.func59 (by kernel_rfl) rfl #[.bool b4] (by rfl) rfl rfl (by (try simp only [List.map_toArray, List.map_cons, List.map_nil]); first | done | rfl) ?_
   refine (truth_any _ _).mono ?_
   rintro e w5 ⟨rfl, rfl⟩
   refine ⟨_, rfl, ?_⟩
   refine hK.out _ _ (hHeld) (fun hHeld => ?_)
   clear hK K
   refine norm_ (a' := ?aa51) ?ha51 ?hh51
   case ha51 => (show Act.put _ (some 32) _ = _; simp only [Act.put, List.setIfInBounds_toArray, List.set_cons_zero, List.set_cons_succ, i64_w, i32_w]; rfl)
   refine on_ HT_.out 23 (mB 27 24) (h := ?_)
   refine on_ HT_.out 24 (mB 27 25) (h := ?_)
   refine on_ HT_.out 25 (mB 27 26) (h := ?_)
   refine on_ HT_.out 26 (mB 27 27) (h := ?_)
   refine done_ (done_of HT_.out (by kernel_rfl)) ?_
   go_wp2
   go_ret
   have hSb := hHeld.2.2.2.1
   refine ⟨?_, below_then HB.out HB.out.size hSb⟩
   rw [HM.out, HN.out, HA.out]
   have hw := may_sum l1 l2 b3 b4 HL.out
   show Ending.returned (Value.bool (decide (wrap64 (wrap64 ((l1.length : Int) + (l2.length : Int) + truthV b3) + truthV b4) ≤ 8))) = _
   rw [hw]
   simp [HE.out]
 ·have e1 : (t.toList == ([] : List UInt8)) = false := beq_eq_false_iff_ne.2 (by rw [Lib.toList_data]; exact hE)
  have e3 : (t.toList = []) = False := eq_false (by rw [Lib.toList_data]; exact hE)
  have HE := Aside0.mk hE
  clear hE
  cases bn with
  | false =>
   refine start_ (n := 27) (S := (fun W => W.cell? ⟨w.heap.size, 0, none⟩ = some (.string t) ∧ W.cell? ⟨w.heap.size, 3, none⟩ = some (.bool b3) ∧ W.cell? ⟨w.heap.size, 4, none⟩ = some (.bool b4) ∧ Since w.heap.size w' W)) (ds := []) (mB 27 0) (by kernel_rfl) rfl rfl ⟨h0, h3, h4, ⟨below_drew1 (Below.refl _ _), hsz1⟩⟩ (fun hHeld => ?_)
   refine with_tab may_tab (fun HT_ => ?_)
   refine on_ HT_.out 0 (mB 27 1) (h := ?_)
   refine take_ (i := 1) (N := (some 11)) (v := ?vv58) (a' := ?aa58) (mB 27 2) rfl rfl (take_of HT_.out (by kernel_rfl)) (fun _ _ _ h => h) (Or.inl ⟨by rfl, ?hy58⟩) hHeld ?ha58 ?hh58
   case hy58 => (intro w' hS; obtain ⟨hS0, hS3, hS4, hSb⟩ := hS; go_simp; try with_reducible rfl)
   case ha58 => (go_simp; rfl)
   refine on_ HT_.out 2 (mB 27 3) (h := ?_)
   refine on_ HT_.out 3 (mB 27 4) (h := ?_)
   refine on_ HT_.out 4 (mB 27 5) (h := ?_)
   refine take_ (i := 5) (N := (some 15)) (v := ?vv62) (a' := ?aa62) (mB 27 6) rfl rfl (take_of HT_.out (by kernel_rfl)) (fun _ _ _ h => h) (Or.inl ⟨by rfl, ?hy62⟩) hHeld ?ha62 ?hh62
   case hy62 => (intro w' hS; obtain ⟨hS0, hS3, hS4, hSb⟩ := hS; go_simp; try with_reducible rfl)
   case ha62 => (go_simp; rfl)
   refine one_ (i := 6) (N := (some 16)) (mB 27 7) rfl rfl (one_of HT_.out (by kernel_rfl)) (by decide) (fun K hK => ?_)
   refine goes_ Tryz.func94 (by kernel_rfl) rfl #[.string t] (by rfl) rfl rfl (by (try simp only [List.map_toArray, List.map_cons, List.map_nil]); first | done | rfl) ?_
   refine (hnm _).mono ?_
   rintro e w2 ⟨rfl, hB2⟩
   refine ⟨_, rfl, ?_⟩
   refine hK.out _ _ (held_next hHeld hB2) (fun hHeld => ?_)
   clear hK K
   refine norm_ (a' := ?aa63) ?ha63 ?hh63
   case ha63 => (show Act.put _ (some 16) _ = _; simp only [Act.put, List.setIfInBounds_toArray, List.set_cons_zero, List.set_cons_succ, i64_w, i32_w]; rfl)
   refine on_ HT_.out 7 (mB 27 8) (h := ?_)
   refine on_ HT_.out 8 (mB 27 9) (h := ?_)
   refine off_ HT_.out 9 (mB 27 10) (h := ?_)
   refine off_ HT_.out 10 (mB 27 11) (h := ?_)
   refine off_ HT_.out 11 (mB 27 12) (h := ?_)
   refine on_ HT_.out 12 (mB 27 13) (h := ?_)
   refine on_ HT_.out 13 (mB 27 14) (h := ?_)
   refine off_ HT_.out 14 (mB 27 15) (h := ?_)
   refine off_ HT_.out 15 (mB 27 16) (h := ?_)
   refine off_ HT_.out 16 (mB 27 17) (h := ?_)
   refine off_ HT_.out 17 (mB 27 18) (h := ?_)
   refine off_ HT_.out 18 (mB 27 19) (h := ?_)
   refine off_ HT_.out 19 (mB 27 20) (h := ?_)
   refine off_ HT_.out 20 (mB 27 21) (h := ?_)
   refine off_ HT_.out 21 (mB 27 22) (h := ?_)
   refine off_ HT_.out 22 (mB 27 23) (h := ?_)
   refine off_ HT_.out 23 (mB 27 24) (h := ?_)
   refine off_ HT_.out 24 (mB 27 25) (h := ?_)
   refine on_ HT_.out 25 (mB 27 26) (h := ?_)
   refine on_ HT_.out 26 (mB 27 27) (h := ?_)
   refine done_ (done_of HT_.out (by kernel_rfl)) ?_
   go_wp2
   go_ret
   have hSb := hHeld.2.2.2.1
   refine ⟨?_, below_then HB.out HB.out.size hSb⟩
   rw [HM.out, HN.out, HA.out]
   show Ending.returned (Value.bool false) = _
   simp [HE.out]
  | true =>
   cases ba with
   | true =>
    refine start_ (n := 27) (S := (fun W => W.cell? ⟨w.heap.size, 0, none⟩ = some (.string t) ∧ W.cell? ⟨w.heap.size, 3, none⟩ = some (.bool b3) ∧ W.cell? ⟨w.heap.size, 4, none⟩ = some (.bool b4) ∧ Since w.heap.size w' W)) (ds := []) (mB 27 0) (by kernel_rfl) rfl rfl ⟨h0, h3, h4, ⟨below_drew1 (Below.refl _ _), hsz1⟩⟩ (fun hHeld => ?_)
    refine with_tab may_tab (fun HT_ => ?_)
    refine on_ HT_.out 0 (mB 27 1) (h := ?_)
    refine take_ (i := 1) (N := (some 11)) (v := ?vv86) (a' := ?aa86) (mB 27 2) rfl rfl (take_of HT_.out (by kernel_rfl)) (fun _ _ _ h => h) (Or.inl ⟨by rfl, ?hy86⟩) hHeld ?ha86 ?hh86
    case hy86 => (intro w' hS; obtain ⟨hS0, hS3, hS4, hSb⟩ := hS; go_simp; try with_reducible rfl)
    case ha86 => (go_simp; rfl)
    refine on_ HT_.out 2 (mB 27 3) (h := ?_)
    refine on_ HT_.out 3 (mB 27 4) (h := ?_)
    refine on_ HT_.out 4 (mB 27 5) (h := ?_)
    refine take_ (i := 5) (N := (some 15)) (v := ?vv90) (a' := ?aa90) (mB 27 6) rfl rfl (take_of HT_.out (by kernel_rfl)) (fun _ _ _ h => h) (Or.inl ⟨by rfl, ?hy90⟩) hHeld ?ha90 ?hh90
    case hy90 => (intro w' hS; obtain ⟨hS0, hS3, hS4, hSb⟩ := hS; go_simp; try with_reducible rfl)
    case ha90 => (go_simp; rfl)
    refine one_ (i := 6) (N := (some 16)) (mB 27 7) rfl rfl (one_of HT_.out (by kernel_rfl)) (by decide) (fun K hK => ?_)
    refine goes_ Tryz.func94 (by kernel_rfl) rfl #[.string t] (by rfl) rfl rfl (by (try simp only [List.map_toArray, List.map_cons, List.map_nil]); first | done | rfl) ?_
    refine (hnm _).mono ?_
    rintro e w2 ⟨rfl, hB2⟩
    refine ⟨_, rfl, ?_⟩
    refine hK.out _ _ (held_next hHeld hB2) (fun hHeld => ?_)
    clear hK K
    refine norm_ (a' := ?aa91) ?ha91 ?hh91
    case ha91 => (show Act.put _ (some 16) _ = _; simp only [Act.put, List.setIfInBounds_toArray, List.set_cons_zero, List.set_cons_succ, i64_w, i32_w]; rfl)
    refine on_ HT_.out 7 (mB 27 8) (h := ?_)
    refine on_ HT_.out 8 (mB 27 9) (h := ?_)
    refine on_ HT_.out 9 (mB 27 10) (h := ?_)
    refine one_ (i := 10) (N := (some 20)) (mB 27 11) rfl rfl (one_of HT_.out (by kernel_rfl)) (by decide) (fun K hK => ?_)
    refine goes_ Tryz.func95 (by kernel_rfl) rfl #[.slice A3 (l1.length + l2.length) c3, .func (.func 96) #[] #[]] (by rfl) rfl rfl (by (try simp only [List.map_toArray, List.map_cons, List.map_nil]); first | done | rfl) ?_
    refine (hcf _ hHeld).mono ?_
    rintro e w3 ⟨rfl, hB3⟩
    refine ⟨_, rfl, ?_⟩
    refine hK.out _ _ (held_next hHeld hB3) (fun hHeld => ?_)
    clear hK K
    refine norm_ (a' := ?aa95) ?ha95 ?hh95
    case ha95 => (show Act.put _ (some 20) _ = _; simp only [Act.put, List.setIfInBounds_toArray, List.set_cons_zero, List.set_cons_succ, i64_w, i32_w]; rfl)
    refine on_ HT_.out 11 (mB 27 12) (h := ?_)
    refine on_ HT_.out 12 (mB 27 13) (h := ?_)
    refine on_ HT_.out 13 (mB 27 14) (h := ?_)
    refine off_ HT_.out 14 (mB 27 15) (h := ?_)
    refine off_ HT_.out 15 (mB 27 16) (h := ?_)
    refine off_ HT_.out 16 (mB 27 17) (h := ?_)
    refine off_ HT_.out 17 (mB 27 18) (h := ?_)
    refine off_ HT_.out 18 (mB 27 19) (h := ?_)
    refine off_ HT_.out 19 (mB 27 20) (h := ?_)
    refine off_ HT_.out 20 (mB 27 21) (h := ?_)
    refine off_ HT_.out 21 (mB 27 22) (h := ?_)
    refine off_ HT_.out 22 (mB 27 23) (h := ?_)
    refine off_ HT_.out 23 (mB 27 24) (h := ?_)
    refine off_ HT_.out 24 (mB 27 25) (h := ?_)
    refine on_ HT_.out 25 (mB 27 26) (h := ?_)
    refine on_ HT_.out 26 (mB 27 27) (h := ?_)
    refine done_ (done_of HT_.out (by kernel_rfl)) ?_
    go_wp2
    go_ret
    have hSb := hHeld.2.2.2.1
    refine ⟨?_, below_then HB.out HB.out.size hSb⟩
    rw [HM.out, HN.out, HA.out]
    show Ending.returned (Value.bool false) = _
    simp [HE.out]
   | false =>
    refine start_ (n := 27) (S := (fun W => W.cell? ⟨w.heap.size, 0, none⟩ = some (.string t) ∧ W.cell? ⟨w.heap.size, 3, none⟩ = some (.bool b3) ∧ W.cell? ⟨w.heap.size, 4, none⟩ = some (.bool b4) ∧ Since w.heap.size w' W)) (ds := []) (mB 27 0) (by kernel_rfl) rfl rfl ⟨h0, h3, h4, ⟨below_drew1 (Below.refl _ _), hsz1⟩⟩ (fun hHeld => ?_)
    refine with_tab may_tab (fun HT_ => ?_)
    refine on_ HT_.out 0 (mB 27 1) (h := ?_)
    refine take_ (i := 1) (N := (some 11)) (v := ?vv114) (a' := ?aa114) (mB 27 2) rfl rfl (take_of HT_.out (by kernel_rfl)) (fun _ _ _ h => h) (Or.inl ⟨by rfl, ?hy114⟩) hHeld ?ha114 ?hh114
    case hy114 => (intro w' hS; obtain ⟨hS0, hS3, hS4, hSb⟩ := hS; go_simp; try with_reducible rfl)
    case ha114 => (go_simp; rfl)
    refine on_ HT_.out 2 (mB 27 3) (h := ?_)
    refine on_ HT_.out 3 (mB 27 4) (h := ?_)
    refine on_ HT_.out 4 (mB 27 5) (h := ?_)
    refine take_ (i := 5) (N := (some 15)) (v := ?vv118) (a' := ?aa118) (mB 27 6) rfl rfl (take_of HT_.out (by kernel_rfl)) (fun _ _ _ h => h) (Or.inl ⟨by rfl, ?hy118⟩) hHeld ?ha118 ?hh118
    case hy118 => (intro w' hS; obtain ⟨hS0, hS3, hS4, hSb⟩ := hS; go_simp; try with_reducible rfl)
    case ha118 => (go_simp; rfl)
    refine one_ (i := 6) (N := (some 16)) (mB 27 7) rfl rfl (one_of HT_.out (by kernel_rfl)) (by decide) (fun K hK => ?_)
    refine goes_ Tryz.func94 (by kernel_rfl) rfl #[.string t] (by rfl) rfl rfl (by (try simp only [List.map_toArray, List.map_cons, List.map_nil]); first | done | rfl) ?_
    refine (hnm _).mono ?_
    rintro e w2 ⟨rfl, hB2⟩
    refine ⟨_, rfl, ?_⟩
    refine hK.out _ _ (held_next hHeld hB2) (fun hHeld => ?_)
    clear hK K
    refine norm_ (a' := ?aa119) ?ha119 ?hh119
    case ha119 => (show Act.put _ (some 16) _ = _; simp only [Act.put, List.setIfInBounds_toArray, List.set_cons_zero, List.set_cons_succ, i64_w, i32_w]; rfl)
    refine on_ HT_.out 7 (mB 27 8) (h := ?_)
    refine on_ HT_.out 8 (mB 27 9) (h := ?_)
    refine on_ HT_.out 9 (mB 27 10) (h := ?_)
    refine one_ (i := 10) (N := (some 20)) (mB 27 11) rfl rfl (one_of HT_.out (by kernel_rfl)) (by decide) (fun K hK => ?_)
    refine goes_ Tryz.func95 (by kernel_rfl) rfl #[.slice A3 (l1.length + l2.length) c3, .func (.func 96) #[] #[]] (by rfl) rfl rfl (by (try simp only [List.map_toArray, List.map_cons, List.map_nil]); first | done | rfl) ?_
    refine (hcf _ hHeld).mono ?_
    rintro e w3 ⟨rfl, hB3⟩
    refine ⟨_, rfl, ?_⟩
    refine hK.out _ _ (held_next hHeld hB3) (fun hHeld => ?_)
    clear hK K
    refine norm_ (a' := ?aa123) ?ha123 ?hh123
    case ha123 => (show Act.put _ (some 20) _ = _; simp only [Act.put, List.setIfInBounds_toArray, List.set_cons_zero, List.set_cons_succ, i64_w, i32_w]; rfl)
    refine on_ HT_.out 11 (mB 27 12) (h := ?_)
    refine on_ HT_.out 12 (mB 27 13) (h := ?_)
    refine on_ HT_.out 13 (mB 27 14) (h := ?_)
    refine on_ HT_.out 14 (mB 27 15) (h := ?_)
    refine on_ HT_.out 15 (mB 27 16) (h := ?_)
    refine on_ HT_.out 16 (mB 27 17) (h := ?_)
    refine take_ (i := 17) (N := (some 27)) (v := ?vv130) (a' := ?aa130) (mB 27 18) rfl rfl (take_of HT_.out (by kernel_rfl)) (fun _ _ _ h => h) (Or.inl ⟨by rfl, ?hy130⟩) hHeld ?ha130 ?hh130
    case hy130 => (intro w' hS; obtain ⟨hS0, hS3, hS4, hSb⟩ := hS; go_simp; try with_reducible rfl)
    case ha130 => (go_simp; rfl)
    refine on_ HT_.out 20 #[true, true, true, true, true, true, true, true, true, true, true, true, true, true, true, true, true, true, false, false, true, false, false, false, false, false, false] (h := ?_)
    refine take_ (i := 21) (N := (some 31)) (v := ?vv132) (a' := ?aa132) #[true, true, true, true, true, true, true, true, true, true, true, true, true, true, true, true, true, true, false, false, true, true, false, false, false, false, false] rfl rfl (take_of HT_.out (by kernel_rfl)) (fun _ _ _ h => h) (Or.inl ⟨by rfl, ?hy132⟩) hHeld ?ha132 ?hh132
    case hy132 => (intro w' hS; obtain ⟨hS0, hS3, hS4, hSb⟩ := hS; go_simp; try with_reducible rfl)
    case ha132 => (go_simp; rfl)
    refine one_ (i := 18) (N := (some 28)) #[true, true, true, true, true, true, true, true, true, true, true, true, true, true, true, true, true, true, true, false, true, true, false, false, false, false, false] rfl rfl (one_of HT_.out (by kernel_rfl)) (by decide) (fun K hK => ?_)
    refine goes_ Tryz.func59 (by kernel_rfl) rfl #[.bool b3] (by rfl) rfl rfl (by (try simp only [List.map_toArray, List.map_cons, List.map_nil]); first | done | rfl) ?_
    refine (truth_any _ _).mono ?_
    rintro e w4 ⟨rfl, rfl⟩
    refine ⟨_, rfl, ?_⟩
    refine hK.out _ _ (hHeld) (fun hHeld => ?_)
    clear hK K
    refine norm_ (a' := ?aa133) ?ha133 ?hh133
    case ha133 => (show Act.put _ (some 28) _ = _; simp only [Act.put, List.setIfInBounds_toArray, List.set_cons_zero, List.set_cons_succ, i64_w, i32_w]; rfl)
    refine on_ HT_.out 19 (mB 27 22) (h := ?_)
    refine one_ (i := 22) (N := (some 32)) (mB 27 23) rfl rfl (one_of HT_.out (by kernel_rfl)) (by decide) (fun K hK => ?_)
    refine goes_ Tryz.func59 (by kernel_rfl) rfl #[.bool b4] (by rfl) rfl rfl (by (try simp only [List.map_toArray, List.map_cons, List.map_nil]); first | done | rfl) ?_
    refine (truth_any _ _).mono ?_
    rintro e w5 ⟨rfl, rfl⟩
    refine ⟨_, rfl, ?_⟩
    refine hK.out _ _ (hHeld) (fun hHeld => ?_)
    clear hK K
    refine norm_ (a' := ?aa135) ?ha135 ?hh135
    case ha135 => (show Act.put _ (some 32) _ = _; simp only [Act.put, List.setIfInBounds_toArray, List.set_cons_zero, List.set_cons_succ, i64_w, i32_w]; rfl)
    refine on_ HT_.out 23 (mB 27 24) (h := ?_)
    refine on_ HT_.out 24 (mB 27 25) (h := ?_)
    refine on_ HT_.out 25 (mB 27 26) (h := ?_)
    refine on_ HT_.out 26 (mB 27 27) (h := ?_)
    refine done_ (done_of HT_.out (by kernel_rfl)) ?_
    go_wp2
    go_ret
    have hSb := hHeld.2.2.2.1
    refine ⟨?_, below_then HB.out HB.out.size hSb⟩
    rw [HM.out, HN.out, HA.out]
    have hw := may_sum l1 l2 b3 b4 HL.out
    show Ending.returned (Value.bool (decide (wrap64 (wrap64 ((l1.length : Int) + (l2.length : Int) + truthV b3) + truthV b4) ≤ 8))) = _
    rw [hw]
    simp [HE.out]
end Go.Proofs.Tok
set_option linter.unusedVariables false
set_option linter.unusedSimpArgs false
namespace Go.Proofs.Tok
open Go.RowKit Go.Lib Go.Proofs.YtolfpgccebdlpaaGreatDoorW.PrintWords Go.Proofs.YtolfpgccebdlpaaGreatDoorW.PrintLast Go.Proofs.YtolfpgccebdlpaaGreatDoorW.PrintMore
/-- a part: tag, ids, classes, link, visited -/
abbrev Smp := ByteArray × List ByteArray × List ByteArray × Bool × Bool
def kSmp : Kd Smp := Kd.pair Kd.string (Kd.pair (Kd.slice 9 Kd.string) (Kd.pair (Kd.slice 9 Kd.string) (Kd.pair Kd.bool Kd.bool)))
def zSmp : Smp := (⟨#[]⟩, [], [], false, false)
theorem kSmp_open {w : World} {x : Smp} {cs : List Value} (h : kSmp.K w x cs) : ∃ A1 c1 A2 c2, cs = [.string x.1, .slice A1 x.2.1.length c1, .slice A2 x.2.2.1.length c2, .bool x.2.2.2.1, .bool x.2.2.2.2] ∧ x.2.1.length ≤ c1 ∧ Kd.string.C w A1 x.2.1.length x.2.1 ∧ x.2.2.1.length ≤ c2 ∧ Kd.string.C w A2 x.2.2.1.length x.2.2.1 := by
  obtain ⟨_, _, rfl, rfl, ⟨_, _, rfl, ⟨A1, c1, rfl, l1, g1⟩, ⟨_, _, rfl, ⟨A2, c2, rfl, l2, g2⟩, ⟨_, _, rfl, rfl, rfl⟩⟩⟩⟩ := h
  exact ⟨A1, c1, A2, c2, rfl, l1, g1, l2, g2⟩
theorem at_Smp {w : World} {A : Option Addr} {n : Nat} {xs : List Smp} (h : Kd.C kSmp w A n xs) (k : Nat) (hk : k < n) (hx : k < xs.length) : ∃ ad A1 c1 A2 c2, A = some ad ∧ w.cell? (ad.add (k * 5)) = some (.string xs[k].1) ∧ w.cell? ⟨(ad.add (k * 5)).block, (ad.add (k * 5)).off + 1, none⟩ = some (.slice A1 xs[k].2.1.length c1) ∧ w.cell? ⟨(ad.add (k * 5)).block, (ad.add (k * 5)).off + 2, none⟩ = some (.slice A2 xs[k].2.2.1.length c2) ∧ w.cell? ⟨(ad.add (k * 5)).block, (ad.add (k * 5)).off + 3, none⟩ = some (.bool xs[k].2.2.2.1) ∧ w.cell? ⟨(ad.add (k * 5)).block, (ad.add (k * 5)).off + 4, none⟩ = some (.bool xs[k].2.2.2.2) ∧ xs[k].2.1.length ≤ c1 ∧ Kd.string.C w A1 xs[k].2.1.length xs[k].2.1 ∧ xs[k].2.2.1.length ≤ c2 ∧ Kd.string.C w A2 xs[k].2.2.1.length xs[k].2.2.1 := by
  obtain ⟨ad, c, e, _, hK, hc0⟩ := Kd.C_get h zSmp (k : Int) (by omega) (by omega)
  have hg : xs.getD (k : Int).toNat zSmp = xs[k] := by rw [Int.toNat_natCast, List.getD, List.getElem?_eq_getElem hx]; rfl
  rw [hg] at hK
  have hc : ∀ j u, c[j]? = some u → w.cell? (ad.add (k * 5 + j)) = some u := hc0
  obtain ⟨A1, c1, A2, c2, rfl, l1, g1, l2, g2⟩ := kSmp_open hK
  exact ⟨ad, A1, c1, A2, c2, e, hc 0 _ rfl, by rw [← add_field _ _ 1 (by omega)]; exact hc 1 _ rfl, by rw [← add_field _ _ 2 (by omega)]; exact hc 2 _ rfl, by rw [← add_field _ _ 3 (by omega)]; exact hc 3 _ rfl, by rw [← add_field _ _ 4 (by omega)]; exact hc 4 _ rfl, l1, g1, l2, g2⟩
def mayX (x : Smp) : Bool := mayV x.1 x.2.1 x.2.2.1 x.2.2.2.1 x.2.2.2.2
def fitX (x : Smp) : Prop := (x.2.1.length + x.2.2.1.length) * 16 ≤ 140737488355328 ∧ x.1.size < 4294967281 ∧ ∀ s ∈ x.2.1 ++ x.2.2.1, s.size < 4294967281
set_option maxHeartbeats 4000000 in
set_option maxRecDepth 400000 in
theorem mayp_any (x : Smp) (hx : fitX x) (A1 : Option Addr) (c1 : Nat) (A2 : Option Addr) (c2 : Nat) (w : World) (C1 : Kd.C Kd.string w A1 x.2.1.length x.2.1) (C2 : Kd.C Kd.string w A2 x.2.2.1.length x.2.2.1) :
    Calls Tryz.prog 51 #[.agg #[.string x.1, .slice A1 x.2.1.length c1, .slice A2 x.2.2.1.length c2, .bool x.2.2.2.1, .bool x.2.2.2.2]] w fun e w' => e = .returned (.bool (!mayX x)) ∧ Below w.heap.size w w' := by
  obtain ⟨t, l1, l2, b3, b4⟩ := x
  obtain ⟨hl, ht, hs⟩ := hx
  simp only at C1 C2 hl ht hs
  have hm := fun W hW => may_any t A1 c1 l1 A2 c2 l2 b3 b4 W (Kd.C_below C1 hW) (Kd.C_below C2 hW) hl ht hs
  have hX : mayX (t, l1, l2, b3, b4) = mayV t l1 l2 b3 b4 := rfl
  rw [hX]
  clear hX hs C1 C2 hl
  generalize mayV t l1 l2 b3 b4 = r at hm ⊢
  have hu44 := Tryz.underlying80
  have HM := Aside0.mk hm
  clear hm
  go_enter Tryz.func51, Tryz.ntmps51
  go_wp2_with (first | (go_at_call 52; refine (HM.out _ (by repeat (first | exact Below.refl _ _ | apply below_alloc))).mono ?_; rintro e w' ⟨rfl, hB⟩))
  go_ret
  exact ⟨rfl, below_then (below_alloc (Below.refl _ _) _) (Nat.le_trans (Nat.le_succ _) (Nat.le_of_eq (alloc_size _ _).symm)) hB⟩
set_option maxHeartbeats 4000000 in
set_option maxRecDepth 400000 in
theorem index_smps (xs : List Smp) (A : Option Addr) (c : Nat) (w : World) (C : Kd.C kSmp w A xs.length xs) (hl : xs.length ≤ 1000) (hs : ∀ x ∈ xs, fitX x) :
    Calls Tryz.prog 92 #[.slice A xs.length c, .func (.func 51) #[] #[]] w fun e w' => Below w.heap.size w w' ∧ ∃ i : Int, e = .returned (.int .i64 i) ∧ decide (0 ≤ i) = xs.any fun x => !mayX x := by
  have C0 := Aside0.mk C
  have HS := Aside0.mk hs
  clear C hs
  have hu44 := Tryz.underlying80
  go_enter Tryz.func92, Tryz.ntmps92
  go_wp2
  go_loopw [5, 8, 9, 10, 11, 12, 13, 14, 15, 16, 18] (fun _ i _ _ _ _ _ _ _ _ _ wr => ∃ k : Nat, k ≤ xs.length ∧ i = .int .i64 k ∧ Aside0 (((xs.take k).any fun x => !mayX x) = false) ∧ Aside0 (Below w.heap.size w wr)) (fun _ i _ _ _ _ _ _ _ _ _ _ => xs.length - (RowKit.intOf i).toNat)
  case atStart => exact ⟨0, Nat.zero_le _, rfl, ⟨rfl⟩, ⟨Below.refl _ _⟩⟩
  case round =>
    obtain ⟨k, hk, rfl, N1, B1⟩ := hrel
    by_cases hlt : k < xs.length
    · have g1 : decide ((k : Int) < (xs.length : Int)) = true := decide_eq_true (by omega)
      obtain ⟨ad, A1, c1, A2, c2, e, h0, h1, h2, h3, h4, q1, C1, q2, C2⟩ := at_Smp C0.out k hlt hlt
      subst e
      have hB := fun (p : Addr) (v : Value) (h : w.cell? p = some v) => (B1.out.cell (World.block_lt_of_cell? _ _ h)).trans h
      have k0 := hB _ _ h0
      have k1 := hB _ _ h1
      have k2 := hB _ _ h2
      have k3 := hB _ _ h3
      have k4 := hB _ _ h4
      have hx := fun W hW => mayp_any xs[k] (HS.out _ (List.getElem_mem hlt)) A1 c1 A2 c2 W (Kd.C_below C1 hW) (Kd.C_below C2 hW)
      have T1 : Aside0 (((xs.take (k + 1)).any fun x => !mayX x) = (((xs.take k).any fun x => !mayX x) || !mayX xs[k])) := ⟨by rw [List.take_succ_eq_append_getElem hlt, List.any_append]; simp⟩
      have T2 : Aside0 (mayX xs[k] = false → (xs.any fun x => !mayX x) = true) := ⟨fun h => List.any_eq_true.2 ⟨xs[k], List.getElem_mem hlt, by rw [h]; rfl⟩⟩
      clear h0 h1 h2 h3 h4 hB q1 q2 C1 C2
      generalize xs[k] = x at hx k0 k1 k2 k3 k4 T1 T2
      obtain ⟨b, hb⟩ : ∃ b, mayX x = b := ⟨_, rfl⟩
      have HN := Aside0.mk hb
      rw [hb] at hx
      have HX := Aside0.mk hx
      clear hb hx
      cases b with
      | false =>
        go_wp2_with (first | (go_at_call 51; refine (HX.out _ B1.out).mono ?_; rintro e w' ⟨rfl, hB⟩))
        go_ret
        exact ⟨below_then B1.out B1.out.size hB, _, rfl, by rw [T2.out HN.out]; simp⟩
      | true =>
        go_wp2_with (first | (go_at_call 51; refine (HX.out _ B1.out).mono ?_; rintro e w' ⟨rfl, hB⟩))
        exact ⟨⟨k + 1, by omega, by go_num, ⟨by rw [T1.out, N1.out, HN.out]; rfl⟩, ⟨below_then B1.out B1.out.size hB⟩⟩, by simp [RowKit.intOf]; omega⟩
    · obtain rfl : k = xs.length := by omega
      have g1 : decide ((xs.length : Int) < (xs.length : Int)) = false := decide_eq_false (by omega)
      have hN := N1.out
      rw [List.take_length] at hN
      have N2 := Aside0.mk hN
      clear hN N1
      go_wp2
      go_ret
      exact ⟨B1.out, _, rfl, by rw [N2.out]; rfl⟩
set_option maxHeartbeats 2000000 in
set_option maxRecDepth 400000 in
theorem contains_smps (xs : List Smp) (A : Option Addr) (c : Nat) (w : World) (C : Kd.C kSmp w A xs.length xs) (hl : xs.length ≤ 1000) (hs : ∀ x ∈ xs, fitX x) :
    Calls Tryz.prog 50 #[.slice A xs.length c, .func (.func 51) #[] #[]] w fun e w' => e = .returned (.bool (xs.any fun x => !mayX x)) ∧ Below w.heap.size w w' := by
  have hi := index_smps xs A c w C hl hs
  clear C hs
  generalize (xs.any fun x => !mayX x) = r at hi ⊢
  go_enter Tryz.func50, Tryz.ntmps50
  go_wp2_with (first | (go_at_call 92; refine hi.mono ?_; rintro e w' ⟨hB, i, rfl, hd⟩))
  go_ret
  exact ⟨by rw [← hd]; rfl, hB⟩
/-- may a selector be: its parts, and how many words on closeness -/
def mayS (xs : List Smp) (n1 : Nat) : Bool := !(xs.length == 0) && (decide (xs.length ≤ 8) && (decide (n1 + 1 = xs.length) && !(xs.any fun x => !mayX x)))
set_option maxHeartbeats 4000000 in
set_option maxRecDepth 400000 in
theorem May_any (xs : List Smp) (A : Option Addr) (c : Nat) (A1 : Option Addr) (n1 c1 : Nat) (w : World) (C : Kd.C kSmp w A xs.length xs) (hl : xs.length ≤ 140737488355328) (hn1 : n1 ≤ 9223372036854775807) (hs : ∀ x ∈ xs, fitX x) :
    Calls Tryz.prog 17 #[.agg #[.slice A xs.length c, .slice A1 n1 c1]] w fun e w' => e = .returned (.bool (mayS xs n1)) ∧ Below w.heap.size w w' := by
  have hu := Tryz.underlying25
  have HC := Aside0.mk (fun (h8 : xs.length ≤ 8) W (hW : Below w.heap.size w W) => contains_smps xs A c W (Kd.C_below C hW) (by omega) hs)
  clear C hs
  obtain ⟨n, hn⟩ : ∃ n, xs.length = n := ⟨_, rfl⟩
  obtain ⟨r, hr⟩ : ∃ r, (xs.any fun x => !mayX x) = r := ⟨_, rfl⟩
  have HM : Aside0 (mayS xs n1 = (!(n == 0) && (decide (n ≤ 8) && (decide (n1 + 1 = n) && !r)))) := ⟨by unfold mayS; rw [hn, hr]⟩
  rw [hn] at HC hl ⊢
  rw [hr] at HC
  clear hn hr
  have fin : ∀ {W : World}, Below (w.alloc (.cells #[.slice A n c, .slice A1 n1 c1] 25)).heap.size (w.alloc (.cells #[.slice A n c, .slice A1 n1 c1] 25)) W → Below w.heap.size w W := fun hB => below_then (below_alloc (Below.refl _ _) _) (Nat.le_trans (Nat.le_succ _) (Nat.le_of_eq (alloc_size _ _).symm)) hB
  by_cases z0 : n = 0
  · subst z0
    go_enter Tryz.func17, Tryz.ntmps17
    go_wp2
    go_ret
    exact ⟨by rw [HM.out]; rfl, below_alloc (Below.refl _ _) _⟩
  · have e0 : (((n : Nat) : Int) == 0) = false := beq_eq_false_iff_ne.2 (by omega)
    have f0 : (n == 0) = false := beq_eq_false_iff_ne.2 z0
    by_cases z8 : n ≤ 8
    · have e8 : decide ((8 : Int) < (n : Int)) = false := decide_eq_false (by omega)
      by_cases z1 : n1 + 1 = n
      · have e1 : (((n1 : Nat) : Int) == wrap64 ((n : Int) - 1)) = true := beq_iff_eq.2 (by unfold wrap64; omega)
        go_enter Tryz.func17, Tryz.ntmps17
        go_wp2_with (first | (go_at_call 50; refine (HC.out z8 _ (by repeat (first | exact Below.refl _ _ | apply below_alloc | apply below_drew1 | apply pw_below_drewN))).mono ?_; rintro e w' ⟨rfl, hB⟩))
        go_ret
        exact ⟨by rw [HM.out, f0, decide_eq_true z8, decide_eq_true z1]; rfl, fin hB⟩
      · have e1 : (((n1 : Nat) : Int) == wrap64 ((n : Int) - 1)) = false := beq_eq_false_iff_ne.2 (by unfold wrap64; omega)
        go_enter Tryz.func17, Tryz.ntmps17
        go_wp2
        go_ret
        exact ⟨by rw [HM.out, f0, decide_eq_true z8, decide_eq_false z1]; rfl, below_alloc (Below.refl _ _) _⟩
    · have e8 : decide ((8 : Int) < (n : Int)) = true := decide_eq_true (by omega)
      go_enter Tryz.func17, Tryz.ntmps17
      go_wp2
      go_ret
      exact ⟨by rw [HM.out, f0, decide_eq_false z8]; rfl, below_alloc (Below.refl _ _) _⟩
end Go.Proofs.Tok
set_option linter.unusedVariables false
set_option linter.unusedSimpArgs false
namespace Go.Proofs.Scn
open Go.RowKit Go.Lib Go.Proofs.YtolfpgccebdlpaaGreatDoorW.PrintWords
/-! ### Strip -/
def stripF : Nat → List UInt8 → List UInt8
  | 0, _ => []
  | k + 1, s => if (Lib.cut s [47, 42]).2.2 = true then (Lib.cut s [47, 42]).1 ++ 32 :: stripF k (Lib.cut (Lib.cut s [47, 42]).2.1 [42, 47]).2.1 else (Lib.cut s [47, 42]).1
def stripV (s : ByteArray) : ByteArray := ⟨(stripF (s.size + 1) s.data.toList).toArray⟩
theorem cut_yes {s sep : List UInt8} (h : (Lib.cut s sep).2.2 = true) : (Lib.cut s sep).1.length + sep.length + (Lib.cut s sep).2.1.length = s.length := by
  unfold Lib.cut at h ⊢
  by_cases c : 0 ≤ Lib.index s sep
  · rw [if_pos c]
    have := Lib.index_room s sep c
    simp only [List.length_take, List.length_drop]
    omega
  · rw [if_neg c] at h
    cases h
theorem cut_no {s sep : List UInt8} (h : (Lib.cut s sep).2.2 = false) : (Lib.cut s sep).1 = s := by
  unfold Lib.cut at h ⊢
  by_cases c : 0 ≤ Lib.index s sep
  · rw [if_pos c] at h
    cases h
  · rw [if_neg c]
theorem cut_rest_le (s sep : List UInt8) : (Lib.cut s sep).2.1.length ≤ s.length := by
  unfold Lib.cut
  split
  · simp
  · simp
/-- the package variable that strings.Index reads holds a number -/
def Mx (w : World) : Prop := ∃ m, w.cell? ⟨0, 0, none⟩ = some (.int .i64 m)
theorem Mx.below {w w' : World} (h : Mx w) (hb : Below w.heap.size w w') : Mx w' := by
  obtain ⟨m, hm⟩ := h
  exact ⟨m, (hb.cell (p := ⟨0, 0, none⟩) (World.block_lt_of_cell? _ _ hm)).trans hm⟩
theorem Mx.draws {w : World} (h : Mx w) (n : Nat) : Mx (w.drewN n) := h
theorem cut_at (s : List UInt8) (sep : ByteArray) (w : World) (hs : s.length < 4294967281) (hm : Mx w) (a b : List UInt8) (is : Bool) (h : Lib.cut s sep.data.toList = (a, b, is)) :
    Calls Tryz.prog 102 #[.string ⟨s.toArray⟩, .string sep] w fun e w' => e = .returned (.tuple #[.string ⟨a.toArray⟩, .string ⟨b.toArray⟩, .bool is]) ∧ ∃ n, w' = w.drewN n := by
  obtain ⟨m, hm⟩ := hm
  have c := Tryz.strings_Cut ⟨s.toArray⟩ sep m w (by simpa [Lib.size_mk] using hs) hm
  rw [show (⟨s.toArray⟩ : ByteArray).data.toList = s by simp, h] at c
  exact c
theorem strip_no {k : Nat} {s : List UInt8} (h : (Lib.cut s [47, 42]).2.2 = false) : stripF (k + 1) s = s := by
  rw [stripF, if_neg (by rw [h]; decide), cut_no h]
theorem strip_yes {k : Nat} {s : List UInt8} (h : (Lib.cut s [47, 42]).2.2 = true) : stripF (k + 1) s = (Lib.cut s [47, 42]).1 ++ 32 :: stripF k (Lib.cut (Lib.cut s [47, 42]).2.1 [42, 47]).2.1 := by
  rw [stripF, if_pos h]
def StAt (s : ByteArray) (w wr : World) (rest acc : List UInt8) (fuel : Nat) : Prop := Lib.IsBuilder 99 5 w.heap.size w.heap.size (Lib.byteCells acc) wr ∧ Below w.heap.size w wr ∧ Mx wr ∧ acc ++ stripF fuel rest = stripF (s.size + 1) s.data.toList ∧ rest.length < fuel ∧ acc.length + rest.length ≤ s.size
set_option maxHeartbeats 4000000 in
set_option maxRecDepth 100000 in
theorem strip_any (s : ByteArray) (w : World) (hs : s.size < 4294967281) (hm : Mx w) :
    Calls Tryz.prog 65 #[.string s] w fun e w' => e = .returned (.string (stripV s)) ∧ Below w.heap.size w w' := by
  have hBw : w.heap.size < (w.alloc (.cells #[.pointer none, .slice none 0 0] 99)).heap.size := by simp
  have h0 : Aside (StAt s w (w.alloc (.cells #[.pointer none, .slice none 0 0] 99)) s.data.toList [] (s.size + 1)) :=
    ⟨Lib.fresh_isBuilder _ _ w, (Below.refl _ w).alloc (Nat.le_refl _) _, hm.below ((Below.refl _ w).alloc (Nat.le_refl _) _), rfl, by rw [← Lib.size_eq]; omega, by rw [← Lib.size_eq]; simp⟩
  have HM : Aside (Mx w) := hm
  clear hm hBw
  go_enter Tryz.func65, Tryz.ntmps65
  go_wp2
  go_loopw [0] (fun v wr => ∃ (rest acc : List UInt8) (fuel : Nat), v = .string ⟨rest.toArray⟩ ∧ Aside (StAt s w wr rest acc fuel)) (fun v _ => match v with | .string x => x.size | _ => 0)
  case atStart => exact ⟨s.data.toList, [], s.size + 1, rfl, h0.out⟩
  case round =>
    clear h0
    obtain ⟨rest, acc, fuel, rfl, A1⟩ := hrel
    obtain ⟨fu, rfl⟩ : ∃ fu, fuel = fu + 1 := ⟨fuel - 1, by have := A1.out.2.2.2.2.1; omega⟩
    have hrl : rest.length ≤ s.size := by have := A1.out.2.2.2.2.2; omega
    obtain ⟨a, b, is, hc⟩ : ∃ a b is, Lib.cut rest [47, 42] = (a, b, is) := ⟨_, _, _, rfl⟩
    have HC : Aside (Lib.cut rest [47, 42] = (a, b, is)) := hc
    clear hc
    cases is
    · go_wp2_with fail
      refine (cut_at rest ⟨#[47, 42]⟩ wr (by omega) A1.out.2.2.1 a b false HC.out).mono ?_
      rintro e w1 ⟨rfl, n1, rfl⟩
      have ea : a = rest := by have := cut_no (s := rest) (sep := [47, 42]) (by rw [HC.out]); rw [HC.out] at this; exact this
      subst ea
      have HI : Aside (Lib.IsBuilder 99 5 w.heap.size w.heap.size (Lib.byteCells acc) (wr.drewN n1) ∧ Below w.heap.size w (wr.drewN n1)) := ⟨A1.out.1, ShX.below_draws A1.out.2.1 n1⟩
      have hal : acc.length + a.length ≤ s.size := A1.out.2.2.2.2.2
      have HE : Aside (acc ++ a = stripF (s.size + 1) s.data.toList) := by rw [← A1.out.2.2.2.1, strip_no (by rw [HC.out])]; exact rfl
      clear HC A1
      go_wp2_with fail
      refine (Tryz.Builder_WriteString w.heap.size w.heap.size _ ⟨a.toArray⟩ _ HI.out.1 (by rw [Lib.byteCells_length]; simp only [Lib.size_mk]; omega) HI.out.2.size).mono ?_
      rintro e w2 ⟨rfl, hb2, hw2⟩
      have HI2 : Aside (Lib.IsBuilder 99 5 w.heap.size w.heap.size (Lib.byteCells (acc ++ a)) w2 ∧ Below w.heap.size w w2) := ⟨(by rw [Lib.byteCells_append]; exact Or.inr hb2), HI.out.2.trans hw2⟩
      clear HI hb2 hw2
      go_wp2_with fail
      refine (Tryz.Builder_String_any w.heap.size w.heap.size _ _ HI2.out.1 HI2.out.2.size).mono ?_
      rintro e w3 ⟨rfl, hw3⟩
      have HB3 : Aside (Below w.heap.size w w3) := HI2.out.2.trans hw3
      clear hw3
      go_wp2
      go_ret
      exact ⟨by show _ = Ending.returned (Value.string ⟨(stripF (s.size + 1) s.data.toList).toArray⟩); rw [← HE.out]; rfl, HB3.out⟩
    · have hlen := cut_yes (s := rest) (sep := [47, 42]) (by rw [HC.out])
      rw [HC.out] at hlen
      simp only [List.length_cons, List.length_nil] at hlen
      obtain ⟨a2, b2, is2, hc2⟩ : ∃ a2 b2 is2, Lib.cut b [42, 47] = (a2, b2, is2) := ⟨_, _, _, rfl⟩
      have HC2 : Aside (Lib.cut b [42, 47] = (a2, b2, is2)) := hc2
      have hb2l : b2.length ≤ b.length := by have := cut_rest_le b [42, 47]; rw [hc2] at this; exact this
      clear hc2
      have hal := A1.out.2.2.2.2.2
      have hfu := A1.out.2.2.2.2.1
      have he0 : (acc ++ (a ++ [32])) ++ stripF fu b2 = stripF (s.size + 1) s.data.toList := by
        rw [← A1.out.2.2.2.1, strip_yes (by rw [HC.out]), HC.out, HC2.out]
        simp
      have HE : Aside ((acc ++ (a ++ [32])) ++ stripF fu b2 = stripF (s.size + 1) s.data.toList) := he0
      clear he0
      go_wp2_with fail
      refine (cut_at rest ⟨#[47, 42]⟩ wr (by omega) A1.out.2.2.1 a b true HC.out).mono ?_
      rintro e w1 ⟨rfl, n1, rfl⟩
      have HI : Aside (Lib.IsBuilder 99 5 w.heap.size w.heap.size (Lib.byteCells acc) (wr.drewN n1) ∧ Below w.heap.size w (wr.drewN n1) ∧ Mx (wr.drewN n1)) := ⟨A1.out.1, ShX.below_draws A1.out.2.1 n1, A1.out.2.2.1⟩
      clear HC A1
      go_wp2_with fail
      refine (Tryz.Builder_WriteString w.heap.size w.heap.size _ ⟨a.toArray⟩ _ HI.out.1 (by rw [Lib.byteCells_length]; simp only [Lib.size_mk]; omega) HI.out.2.1.size).mono ?_
      rintro e w2 ⟨rfl, hb2, hw2⟩
      have HI2 : Aside (Lib.IsBuilder 99 5 w.heap.size w.heap.size (Lib.byteCells (acc ++ a)) w2 ∧ Below w.heap.size w w2) := ⟨(by rw [Lib.byteCells_append]; exact Or.inr hb2), HI.out.2.1.trans hw2⟩
      clear HI hb2 hw2
      go_wp2_with fail
      refine (Tryz.Builder_WriteByte w.heap.size w.heap.size _ 32 _ HI2.out.1 (by rw [Lib.byteCells_length]; simp; omega) HI2.out.2.size).mono ?_
      rintro e w3 ⟨rfl, hb3, hw3⟩
      have HI3 : Aside (Lib.IsBuilder 99 5 w.heap.size w.heap.size (Lib.byteCells (acc ++ (a ++ [32]))) w3 ∧ Below w.heap.size w w3) := ⟨(by rw [← List.append_assoc, Lib.byteCells_append]; exact Or.inr hb3), HI2.out.2.trans hw3⟩
      have HM3 : Aside (Mx w3) := HM.out.below HI3.out.2
      clear HI2 hb3 hw3
      go_wp2_with fail
      refine (cut_at b ⟨#[42, 47]⟩ w3 (by omega) HM3.out a2 b2 is2 HC2.out).mono ?_
      rintro e w4 ⟨rfl, n4, rfl⟩
      go_wp2
      go_roundw
      case rel => exact ⟨b2, acc ++ (a ++ [32]), fu, rfl, HI3.out.1, ShX.below_draws HI3.out.2 n4, HM3.out, HE.out, by omega, by simp; omega⟩
      case measure => simp only [Lib.size_mk]; omega
end Go.Proofs.Scn
