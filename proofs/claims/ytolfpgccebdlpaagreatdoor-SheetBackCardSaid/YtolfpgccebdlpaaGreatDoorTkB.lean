/- token.Name: contracts of functions of the given program, proved by walking their text; no condition beside those that each theorem states. -/
import Derived.Test.YtolfpgccebdlpaaGreatDoorScO
import Derived.KernelRfl
import Derived.Shelf.Spec.SlicesGrow
import Derived.OwnWalk
import Derived.Test.YtolfpgccebdlpaaGreatDoorWLast
set_option linter.unusedVariables false
set_option linter.unusedSimpArgs false
namespace Go.Proofs.Tok
open Go.RowKit Go.Lib Go.Proofs.YtolfpgccebdlpaaGreatDoorW.PrintWords
def ltr (x : Int) : Bool := decide (97 ≤ Go.bits .or .u8 x 32) && decide (Go.bits .or .u8 x 32 ≤ 122)
def inI (x : Int) : Bool := ltr x || ((decide (48 ≤ x) && decide (x ≤ 57)) || (x == 45))
set_option maxHeartbeats 2000000 in
set_option maxRecDepth 100000 in
theorem letter_any (x : Int) (w : World) : Calls Tryz.prog 167 #[.int .u8 x] w fun e w' => e = .returned (.bool (ltr x)) ∧ Drawn0 w w' := by
  by_cases c2 : 97 ≤ Go.bits .or .u8 x 32
  · have c2b0 : decide (97 ≤ (Go.bits .or .u8 x 32)) = true := decide_eq_true c2
    have e : ltr x = decide (Go.bits .or .u8 x 32 ≤ 122) := by unfold ltr; rw [c2b0]; rfl
    rw [e]
    clear e c2
    go_enter Tryz.func167, Tryz.ntmps167
    go_wp2
    go_ret
    exact ⟨by first | rfl | (simp; done) | (simp [*]; done), by repeat (first | exact Drawn0.refl _ | apply Drawn0.step)⟩
  · have c2b0 : decide (97 ≤ (Go.bits .or .u8 x 32)) = false := decide_eq_false c2
    have e : ltr x = false := by unfold ltr; rw [c2b0]; rfl
    rw [e]
    clear e c2
    go_enter Tryz.func167, Tryz.ntmps167
    go_wp2
    go_ret
    exact ⟨by first | rfl | (simp; done) | (simp [*]; done), by repeat (first | exact Drawn0.refl _ | apply Drawn0.step)⟩
set_option maxHeartbeats 4000000 in
set_option maxRecDepth 100000 in
theorem inName_any (x : Int) (w : World) : Calls Tryz.prog 166 #[.int .u8 x] w fun e w' => e = .returned (.bool (inI x)) ∧ Drawn0 w w' := by
  have hl := letter_any x
  unfold inI
  generalize ltr x = b at hl ⊢
  cases b with
  | true =>
    go_enter Tryz.func166, Tryz.ntmps166
    go_wp2_with (first | (go_at_call 167; refine (hl _).mono ?_; rintro e w' ⟨rfl, ⟨nd, rfl⟩⟩))
    go_ret
    exact ⟨by first | rfl | (simp; done) | (simp [*]; done), by repeat (first | exact Drawn0.refl _ | apply Drawn0.step)⟩
  | false =>
    by_cases c4 : 48 ≤ x
    · have c4b0 : decide (48 ≤ x) = true := decide_eq_true c4
      by_cases c5 : x ≤ 57
      · have c5b0 : decide (x ≤ 57) = true := decide_eq_true c5
        rw [c4b0, c5b0]
        clear c4 c5
        go_enter Tryz.func166, Tryz.ntmps166
        go_wp2_with (first | (go_at_call 167; refine (hl _).mono ?_; rintro e w' ⟨rfl, ⟨nd, rfl⟩⟩))
        go_ret
        exact ⟨by first | rfl | (simp; done) | (simp [*]; done), by repeat (first | exact Drawn0.refl _ | apply Drawn0.step)⟩
      · have c5b0 : decide (x ≤ 57) = false := decide_eq_false c5
        rw [c4b0, c5b0]
        clear c4 c5
        go_enter Tryz.func166, Tryz.ntmps166
        go_wp2_with (first | (go_at_call 167; refine (hl _).mono ?_; rintro e w' ⟨rfl, ⟨nd, rfl⟩⟩))
        go_ret
        exact ⟨by first | rfl | (simp; done) | (simp [*]; done), by repeat (first | exact Drawn0.refl _ | apply Drawn0.step)⟩
    · have c4b0 : decide (48 ≤ x) = false := decide_eq_false c4
      rw [c4b0]
      clear c4
      go_enter Tryz.func166, Tryz.ntmps166
      go_wp2_with (first | (go_at_call 167; refine (hl _).mono ?_; rintro e w' ⟨rfl, ⟨nd, rfl⟩⟩))
      go_ret
      exact ⟨by first | rfl | (simp; done) | (simp [*]; done), by repeat (first | exact Drawn0.refl _ | apply Drawn0.step)⟩
/-! ### small letters -/
def lowT (c : UInt8) : UInt8 := if ltr (c.toNat : Int) = true then UInt8.ofNat (Go.bits .or .u8 (c.toNat : Int) 32).toNat else c
theorem lowT_yes {c : UInt8} (h : ltr (c.toNat : Int) = true) : Go.bits .or .u8 (c.toNat : Int) 32 = ((lowT c).toNat : Int) := by
  have k : ((List.range 256).all fun n => Go.bits .or .u8 (n : Int) 32 == ((UInt8.ofNat (Go.bits .or .u8 (n : Int) 32).toNat).toNat : Int)) = true := by kernel_rfl
  have k2 := List.all_eq_true.1 k c.toNat (List.mem_range.2 c.toNat_lt)
  unfold lowT
  rw [if_pos h]
  exact beq_iff_eq.1 k2
theorem lowT_no {c : UInt8} (h : ltr (c.toNat : Int) = false) : lowT c = c := by unfold lowT; rw [h]; rfl
def lowTV (l : List UInt8) : ByteArray := ⟨(l.map lowT).toArray⟩
def tAt (l : List UInt8) (k j : Nat) : Int := ((if j < k then lowT (l.getD j 0) else l.getD j 0).toNat : Int)
theorem tAt_next {l : List UInt8} {k j : Nat} (h : j ≠ k) : tAt l (k + 1) j = tAt l k j := by
  unfold tAt
  by_cases h1 : j < k
  · rw [if_pos h1, if_pos (by omega)]
  · rw [if_neg h1, if_neg (by omega)]
theorem tAt_same (l : List UInt8) (k : Nat) : tAt l (k + 1) k = ((lowT (l.getD k 0)).toNat : Int) := by
  unfold tAt
  rw [if_pos (Nat.lt_succ_self k)]
def TAt (s : ByteArray) (B : Nat) (w wr : World) (k : Nat) : Prop := (∀ j, j < s.size → wr.cell? ⟨B, j, none⟩ = some (.int .u8 (tAt s.data.toList k j)) ∧ wr.frozen? ⟨B, j, none⟩ = false) ∧ Below w.heap.size w wr
theorem TAt.start (s : ByteArray) (w : World) (e : TypeId) : TAt s w.heap.size w (Lib.bytesWorld w e s) 0 := by
  refine ⟨fun j hj => ⟨?_, ?_⟩, ?_⟩
  · rw [Lib.bytesWorld_cell w e s j hj]
    unfold tAt
    rw [if_neg (by omega)]
  · simp only [World.frozen?, Lib.bytesWorld_at_new]
    have : (Lib.bytesCells w e s).size ≥ s.size := by
      simp only [Lib.bytesCells, Array.size_append, Array.size_map]
      have : s.data.size = s.size := rfl
      omega
    simp
    omega
  · refine ⟨rfl, rfl, rfl, by rw [Lib.bytesWorld_size]; omega, fun k hk => Lib.bytesWorld_at_old w e s k hk⟩
theorem TAt.draws {s : ByteArray} {B k : Nat} {w wr : World} (h : TAt s B w wr k) (n : Nat) : TAt s B w (wr.drewN n) k := ⟨h.1, pw_below_drewN h.2 n⟩
theorem TAt.keep {s : ByteArray} {B k : Nat} {w wr : World} (h : TAt s B w wr k) (hk : k < s.size) (hn : ltr ((s.data.toList.getD k 0).toNat : Int) = false) : TAt s B w wr (k + 1) := by
  refine ⟨fun j hj => ⟨?_, (h.1 j hj).2⟩, h.2⟩
  rw [(h.1 j hj).1]
  by_cases e : j = k
  · subst e
    rw [tAt_same, lowT_no hn]
    unfold tAt
    rw [if_neg (by omega)]
  · rw [tAt_next e]
theorem TAt.put {s : ByteArray} {B k : Nat} {w wr : World} (h : TAt s B w wr k) (hB : w.heap.size ≤ B) (hk : k < s.size) {v : Int} (hv : v = ((lowT (s.data.toList.getD k 0)).toNat : Int)) : TAt s B w (wr.setCell ⟨B, k, none⟩ (.int .u8 v)) (k + 1) := by
  refine ⟨fun j hj => ⟨?_, by rw [World.frozen?_setCell]; exact (h.1 j hj).2⟩, h.2.setCell (p := ⟨B, k, none⟩) hB _⟩
  by_cases e : j = k
  · subst e
    rw [tAt_same, ← hv]
    exact World.cell?_setCell_same' _ _ _ (by rw [(h.1 j hj).1]; rfl)
  · rw [tAt_next e, ← (h.1 j hj).1]
    exact World.cell?_setCell_other _ _ _ _ (by intro q; injection q with _ q; exact e q.symm)
theorem lowTV_nums (s : ByteArray) : strOfNums ((List.range s.size).map (tAt s.data.toList s.size)) = lowTV s.data.toList := by
  unfold strOfNums lowTV
  congr 2
  refine List.ext_getElem? fun j => ?_
  rw [List.map_map, List.getElem?_map, List.getElem?_map]
  by_cases h : j < s.size
  · have h' : j < s.data.toList.length := by rw [← Lib.size_eq]; exact h
    rw [List.getElem?_range h, List.getElem?_eq_getElem h']
    have e : s.data.toList.getD j 0 = s.data.toList[j] := by rw [List.getD_eq_getElem?_getD, List.getElem?_eq_getElem h']; rfl
    simp only [Option.map_some, Function.comp_apply, tAt]
    rw [if_pos h, e]
    simp
  · have h' : ¬ j < s.data.toList.length := by rw [← Lib.size_eq]; exact h
    rw [List.getElem?_eq_none (by simpa using h), List.getElem?_eq_none (by omega)]
    rfl
set_option maxHeartbeats 2000000 in
set_option maxRecDepth 100000 in
theorem lower_any (s : ByteArray) (w : World) (hs : s.size < 4294967281) :
    Calls Tryz.prog 168 #[.string s] w fun e w' => e = .returned (.string (lowTV s.data.toList)) ∧ Below w.heap.size w w' := by
  have h0 := TAt.start s w 5
  have hconv := Lib.run_convert_string_bytes (P := Tryz.prog) w 9 97 5 s Tryz.underlying9 Tryz.underlying97 Tryz.underlying5
  obtain ⟨W1, hW1⟩ : ∃ W1, Lib.bytesWorld w 5 s = W1 := ⟨_, rfl⟩
  obtain ⟨cap, hcap⟩ : ∃ cap, grownCap w s.size 0 5 = cap := ⟨_, rfl⟩
  rw [hW1] at h0 hconv
  rw [hcap] at hconv
  have H0 : Aside (TAt s w.heap.size w W1 0) := h0
  clear hW1 hcap h0
  go_enter Tryz.func168, Tryz.ntmps168
  go_wp2
  clear hconv
  go_loopw [10, 11, 12, 13, 14, 4, 5, 15, 16, 17, 18, 19, 20, 21, 22] (fun i _ _ _ _ _ _ _ _ _ _ _ _ _ _ wr => ∃ k : Nat, k ≤ s.size ∧ i = .int .i64 k ∧ Aside (TAt s w.heap.size w wr k)) (fun i _ _ _ _ _ _ _ _ _ _ _ _ _ _ _ => s.size - (RowKit.intOf i).toNat)
  case atStart => exact ⟨0, Nat.zero_le _, rfl, H0.out⟩
  case round =>
    clear H0
    obtain ⟨k, hk, rfl, A1⟩ := hrel
    by_cases hlt : k < s.size
    · have hltz : (k : Int) < (s.size : Int) := by omega
      obtain ⟨c, hc⟩ : ∃ c, s.data.toList.getD k 0 = c := ⟨_, rfl⟩
      have hcell : wr.cell? ⟨w.heap.size, k, none⟩ = some (.int .u8 (c.toNat : Int)) := by
        rw [(A1.out.1 k hlt).1]
        unfold tAt
        rw [if_neg (by omega), hc]
      have hfz := (A1.out.1 k hlt).2
      have HC : Aside (s.data.toList.getD k 0 = c) := hc
      clear hc
      have hl := letter_any (c.toNat : Int)
      obtain ⟨b, hb⟩ : ∃ b, ltr (c.toNat : Int) = b := ⟨_, rfl⟩
      have HL : Aside (ltr (c.toNat : Int) = b) := hb
      rw [hb] at hl
      clear hb
      cases b with
      | true =>
        go_wp2_with (first | (go_at_call 167; refine (hl _).mono ?_; rintro e w' ⟨rfl, ⟨nd, rfl⟩⟩))
        refine ⟨⟨k + 1, by omega, by go_num, (A1.out.draws _).put (Nat.le_refl _) hlt ?_⟩, by simp [RowKit.intOf]; omega⟩
        rw [HC.out]
        exact lowT_yes HL.out
      | false =>
        go_wp2_with (first | (go_at_call 167; refine (hl _).mono ?_; rintro e w' ⟨rfl, ⟨nd, rfl⟩⟩))
        exact ⟨⟨k + 1, by omega, by go_num, (A1.out.draws _).keep hlt (by rw [HC.out]; exact HL.out)⟩, by simp [RowKit.intOf]; omega⟩
    · obtain rfl : k = s.size := by omega
      have hltz : ¬ ((s.size : Int) < (s.size : Int)) := by omega
      have hcv := run_convert_bytes_arg (P := Tryz.prog) wr 97 5 Tryz.underlying97 Tryz.underlying5 w.heap.size 0 s.size cap ((List.range s.size).map (tAt s.data.toList s.size)) (by simp) (fun i hi => by rw [Nat.zero_add, (A1.out.1 i hi).1]; simp [List.getD, hi]) 9 Tryz.underlying9
      rw [lowTV_nums] at hcv
      go_wp2
      go_ret
      exact ⟨rfl, A1.out.2⟩
end Go.Proofs.Tok
namespace Go.Proofs.Tok
open Go.RowKit Go.Lib Go.Proofs.YtolfpgccebdlpaaGreatDoorW.PrintWords
def lead (l : List UInt8) : Nat := (l.takeWhile fun c => inI (c.toNat : Int)).length
theorem lead_nil : lead [] = 0 := rfl
theorem lead_yes {c : UInt8} {t : List UInt8} (h : inI (c.toNat : Int) = true) : lead (c :: t) = lead t + 1 := by simp [lead, List.takeWhile, h]
theorem lead_no {c : UInt8} {t : List UInt8} (h : inI (c.toNat : Int) = false) : lead (c :: t) = 0 := by simp [lead, List.takeWhile, h]
theorem lead_le : ∀ l : List UInt8, lead l ≤ l.length
  | [] => Nat.le_refl _
  | c :: t => by
    have := lead_le t
    cases h : inI (c.toNat : Int) with
    | true => rw [lead_yes h]; simp; exact this
    | false => rw [lead_no h]; exact Nat.zero_le _
theorem lead_lt : ∀ {l : List UInt8} {k : Nat}, k < lead l → inI ((l.getD k 0).toNat : Int) = true
  | [], k, h => by simp [lead_nil] at h
  | c :: t, k, h => by
    cases hc : inI (c.toNat : Int) with
    | true =>
      rw [lead_yes hc] at h
      cases k with
      | zero => exact hc
      | succ k => exact lead_lt (l := t) (k := k) (by omega)
    | false => rw [lead_no hc] at h; omega
theorem lead_at : ∀ {l : List UInt8}, lead l < l.length → inI ((l.getD (lead l) 0).toNat : Int) = false
  | [], h => by simp at h
  | c :: t, h => by
    cases hc : inI (c.toNat : Int) with
    | true =>
      rw [lead_yes hc] at h ⊢
      exact lead_at (l := t) (by simp at h; omega)
    | false => rw [lead_no hc]; exact hc
def nameOk (l : List UInt8) : Bool := !(lead l == 0) && (decide (lead l ≤ 20) && ltr ((l.getD 0 0).toNat : Int))
theorem cv_take (l : List UInt8) (B cap k : Nat) (W : World) (hk : k ≤ l.length) (hc : ∀ j, j < l.length → W.cell? ⟨B, j, none⟩ = some (.int .u8 ((l.getD j 0).toNat : Int))) :
    (convert 97 9 (.slice (some ⟨B, 0, none⟩) k cap)).run Tryz.prog W = .ok (.string ⟨(l.take k).toArray⟩) W := by
  have hcv := run_convert_bytes_arg (P := Tryz.prog) W 97 5 Tryz.underlying97 Tryz.underlying5 B 0 k cap ((l.take k).map fun c => (c.toNat : Int)) (by simp; omega) (fun i hi => by
    rw [Nat.zero_add, hc i (by omega)]
    congr 1
    simp [List.getD, List.getElem?_take, hi, List.getElem?_eq_getElem (show i < l.length by omega)]) 9 Tryz.underlying9
  rw [hcv]
  have e : strOfNums ((l.take k).map fun c => (c.toNat : Int)) = ⟨(l.take k).toArray⟩ := by
    unfold strOfNums
    rw [List.map_map]
    have e2 : (l.take k).map ((fun n : Int => UInt8.ofNat n.toNat) ∘ fun c : UInt8 => (c.toNat : Int)) = l.take k := by
      conv => rhs; rw [← List.map_id (l.take k)]
      apply List.map_congr_left
      intro c _
      simp
    rw [e2]
  rw [e]
set_option maxHeartbeats 4000000 in
set_option maxRecDepth 400000 in
theorem name_any (l : List UInt8) (B cap : Nat) (w : World) (hc : ∀ j, j < l.length → w.cell? ⟨B, j, none⟩ = some (.int .u8 ((l.getD j 0).toNat : Int))) (hB : B < w.heap.size) (hcap : l.length ≤ cap) (hs : l.length < 4294967281) :
    Calls Tryz.prog 134 #[.slice (some ⟨B, 0, none⟩) l.length cap] w fun e w' => Below w.heap.size w w' ∧ ∃ A c, e = .returned (if nameOk l = true then .tuple #[.string (lowTV (l.take (lead l))), .slice A (l.length - lead l) c, .bool true] else .tuple #[.string ⟨#[]⟩, .slice none 0 0, .bool false]) := by
  have HC : Aside (∀ j, j < l.length → w.cell? ⟨B, j, none⟩ = some (.int .u8 ((l.getD j 0).toNat : Int))) := hc
  clear hc
  obtain ⟨m, hm⟩ : ∃ m, lead l = m := ⟨_, rfl⟩
  have HM : Aside (lead l = m) := hm
  have hml : m ≤ l.length := by rw [← hm]; exact lead_le l
  obtain ⟨ok, hok⟩ : ∃ ok, nameOk l = ok := ⟨_, rfl⟩
  have HO : Aside (nameOk l = ok) := hok
  obtain ⟨T, hT⟩ : ∃ T, lowTV (l.take m) = T := ⟨_, rfl⟩
  have HT : Aside (lowTV (l.take m) = T) := hT
  rw [hm, hok, hT]
  clear hm hok hT
  have hcapz : (l.length : Int) ≤ (cap : Int) := by omega
  have hmz : (m : Int) ≤ (l.length : Int) := by omega
  go_enter Tryz.func134, Tryz.ntmps134
  go_wp2
  go_loopw [5, 6, 7, 8, 9, 10, 11, 12, 13, 14, 15, 16, 17, 18] (fun i _ _ _ _ _ _ _ _ _ _ _ _ _ wr => ∃ k : Nat, k ≤ m ∧ i = .int .i64 k ∧ Aside (Below w.heap.size w wr)) (fun i _ _ _ _ _ _ _ _ _ _ _ _ _ _ => m - (RowKit.intOf i).toNat)
  case atStart => exact ⟨0, Nat.zero_le _, rfl, Below.refl _ _⟩
  case round =>
    obtain ⟨k, hk, rfl, A1⟩ := hrel
    by_cases hkm : k < m
    · have hin := inName_any ((l.getD k 0).toNat : Int)
      rw [lead_lt (l := l) (k := k) (by rw [HM.out]; exact hkm)] at hin
      have hkl : k < l.length := by omega
      have g1 : decide ((k : Int) < (l.length : Int)) = true := decide_eq_true (by omega)
      have hcell : wr.cell? ⟨B, k, none⟩ = some (.int .u8 ((l.getD k 0).toNat : Int)) := (A1.out.cell hB).trans (HC.out k hkl)
      have hltz : (k : Int) < (l.length : Int) := by omega
      generalize ((l.getD k 0).toNat : Int) = x at hin hcell
      go_wp2_with (first | (go_at_call 166; refine (hin _).mono ?_; rintro e w' ⟨rfl, ⟨nd, rfl⟩⟩))
      exact ⟨⟨k + 1, by omega, by go_num, pw_below_drewN A1.out _⟩, by simp [RowKit.intOf]; omega⟩
    · obtain rfl : k = m := by omega
      have HZ : Aside ((k = 0 ∧ ok = false) ∨ (20 < k ∧ ok = false) ∨ (0 < k ∧ k ≤ 20 ∧ ltr ((l.getD 0 0).toNat : Int) = ok)) := by
        have h1 := HO.out
        unfold nameOk at h1
        rw [HM.out] at h1
        by_cases z : k = 0
        · left
          subst z
          exact ⟨rfl, h1.symm⟩
        · have zb : (k == 0) = false := beq_eq_false_iff_ne.2 z
          rw [zb] at h1
          by_cases z2 : k ≤ 20
          · rw [decide_eq_true z2] at h1
            exact .inr (.inr ⟨by omega, z2, by simpa using h1⟩)
          · rw [decide_eq_false z2] at h1
            exact .inr (.inl ⟨by omega, h1.symm⟩)
      by_cases hkl : k < l.length
      · have hin := inName_any ((l.getD k 0).toNat : Int)
        have hno := lead_at (l := l) (by rw [HM.out]; exact hkl)
        rw [HM.out] at hno
        rw [hno] at hin
        clear hno
        have g1 : decide ((k : Int) < (l.length : Int)) = true := decide_eq_true (by omega)
        have hcell : wr.cell? ⟨B, k, none⟩ = some (.int .u8 ((l.getD k 0).toNat : Int)) := (A1.out.cell hB).trans (HC.out k hkl)
        have hltz : (k : Int) < (l.length : Int) := by omega
        generalize ((l.getD k 0).toNat : Int) = x at hin hcell
        rcases HZ.out with ⟨z, zo⟩ | ⟨z, zo⟩ | ⟨z1, z2, zo⟩
        · subst zo
          subst z
          go_wp2_with (first | (go_at_call 166; refine (hin _).mono ?_; rintro e w' ⟨rfl, ⟨nd, rfl⟩⟩))
          go_ret3
          exact ⟨by repeat (first | exact A1.out | apply pw_below_drewN | apply below_drew1), by first | rfl | exact ⟨none, 0, rfl⟩⟩
        · subst zo
          have zk1 : ((k : Int) == 0) = false := beq_eq_false_iff_ne.2 (by omega)
          have zk2 : ¬ k = 0 := by omega
          have zk3 : decide ((20 : Int) < (k : Int)) = true := decide_eq_true (by omega)
          have zk4 : (20 : Int) < (k : Int) := by omega
          go_wp2_with (first | (go_at_call 166; refine (hin _).mono ?_; rintro e w' ⟨rfl, ⟨nd, rfl⟩⟩))
          go_ret3
          exact ⟨by repeat (first | exact A1.out | apply pw_below_drewN | apply below_drew1), by first | rfl | exact ⟨none, 0, rfl⟩⟩
        · have zk1 : ((k : Int) == 0) = false := beq_eq_false_iff_ne.2 (by omega)
          have zk2 : ¬ k = 0 := by omega
          have zk3 : decide ((20 : Int) < (k : Int)) = false := decide_eq_false (by omega)
          have zk4 : ¬ (20 : Int) < (k : Int) := by omega
          have hlt := letter_any ((l.getD 0 0).toNat : Int)
          rw [zo] at hlt
          have hc0 : wr.cell? ⟨B, 0, none⟩ = some (.int .u8 ((l.getD 0 0).toNat : Int)) := (A1.out.cell hB).trans (HC.out 0 (by omega))
          have hl0 : (0 : Int) < (l.length : Int) := by omega
          clear zo HZ
          generalize ((l.getD 0 0).toNat : Int) = y at hlt hc0
          cases ok with
          | false =>
            go_wp2_with (first | (go_at_call 166; refine (hin _).mono ?_; rintro e w' ⟨rfl, ⟨nd, rfl⟩⟩) | (go_at_call 167; refine (hlt _).mono ?_; rintro e w' ⟨rfl, ⟨nd2, rfl⟩⟩))
            go_ret3
            exact ⟨by repeat (first | exact A1.out | apply pw_below_drewN | apply below_drew1), by first | rfl | exact ⟨none, 0, rfl⟩⟩
          | true =>
            have hcv : ∀ n, (convert 97 9 (.slice (some ⟨B, 0, none⟩) k cap)).run Tryz.prog (wr.drewN n) = .ok (.string ⟨(l.take k).toArray⟩) (wr.drewN n) := fun n => cv_take l B cap k (wr.drewN n) hml (fun j hj => (A1.out.cell hB).trans (HC.out j hj))
            have hlo := fun W => lower_any (⟨(l.take k).toArray⟩ : ByteArray) W (by rw [Lib.size_eq]; simp; omega)
            rw [show (⟨(l.take k).toArray⟩ : ByteArray).data.toList = l.take k from by simp] at hlo
            rw [HT.out] at hlo
            generalize (⟨(l.take k).toArray⟩ : ByteArray) = U at hlo hcv
            go_wp2_with (first | (go_at_call 166; refine (hin _).mono ?_; rintro e w' ⟨rfl, ⟨nd, rfl⟩⟩) | (go_at_call 167; refine (hlt _).mono ?_; rintro e w' ⟨rfl, ⟨nd2, rfl⟩⟩) | (go_at_call 168; refine (hlo _).mono ?_; rintro e w' ⟨rfl, hB2⟩))
            go_region_with (first | (go_at_call 168; refine (hlo _).mono ?_; rintro e w' ⟨rfl, hB2⟩))
            go_wp2
            go_ret3
            exact ⟨by repeat (first | exact below_then (pw_below_drewN A1.out _) A1.out.size hB2 | apply pw_below_drewN | apply below_drew1), _, _, rfl⟩
      · have g1 : decide ((k : Int) < (l.length : Int)) = false := decide_eq_false (by omega)
        have hltz : ¬ ((k : Int) < (l.length : Int)) := by omega
        rcases HZ.out with ⟨z, zo⟩ | ⟨z, zo⟩ | ⟨z1, z2, zo⟩
        · subst zo
          subst z
          go_wp2
          go_ret3
          exact ⟨by repeat (first | exact A1.out | apply pw_below_drewN | apply below_drew1), by first | rfl | exact ⟨none, 0, rfl⟩⟩
        · subst zo
          have zk1 : ((k : Int) == 0) = false := beq_eq_false_iff_ne.2 (by omega)
          have zk2 : ¬ k = 0 := by omega
          have zk3 : decide ((20 : Int) < (k : Int)) = true := decide_eq_true (by omega)
          have zk4 : (20 : Int) < (k : Int) := by omega
          go_wp2
          go_ret3
          exact ⟨by repeat (first | exact A1.out | apply pw_below_drewN | apply below_drew1), by first | rfl | exact ⟨none, 0, rfl⟩⟩
        · have zk1 : ((k : Int) == 0) = false := beq_eq_false_iff_ne.2 (by omega)
          have zk2 : ¬ k = 0 := by omega
          have zk3 : decide ((20 : Int) < (k : Int)) = false := decide_eq_false (by omega)
          have zk4 : ¬ (20 : Int) < (k : Int) := by omega
          have hlt := letter_any ((l.getD 0 0).toNat : Int)
          rw [zo] at hlt
          have hc0 : wr.cell? ⟨B, 0, none⟩ = some (.int .u8 ((l.getD 0 0).toNat : Int)) := (A1.out.cell hB).trans (HC.out 0 (by omega))
          have hl0 : (0 : Int) < (l.length : Int) := by omega
          clear zo HZ
          generalize ((l.getD 0 0).toNat : Int) = y at hlt hc0
          cases ok with
          | false =>
            go_wp2_with (first | (go_at_call 167; refine (hlt _).mono ?_; rintro e w' ⟨rfl, ⟨nd2, rfl⟩⟩))
            go_ret3
            exact ⟨by repeat (first | exact A1.out | apply pw_below_drewN | apply below_drew1), by first | rfl | exact ⟨none, 0, rfl⟩⟩
          | true =>
            have hcv : ∀ n, (convert 97 9 (.slice (some ⟨B, 0, none⟩) k cap)).run Tryz.prog (wr.drewN n) = .ok (.string ⟨(l.take k).toArray⟩) (wr.drewN n) := fun n => cv_take l B cap k (wr.drewN n) hml (fun j hj => (A1.out.cell hB).trans (HC.out j hj))
            have hlo := fun W => lower_any (⟨(l.take k).toArray⟩ : ByteArray) W (by rw [Lib.size_eq]; simp; omega)
            rw [show (⟨(l.take k).toArray⟩ : ByteArray).data.toList = l.take k from by simp] at hlo
            rw [HT.out] at hlo
            generalize (⟨(l.take k).toArray⟩ : ByteArray) = U at hlo hcv
            go_wp2_with (first | (go_at_call 167; refine (hlt _).mono ?_; rintro e w' ⟨rfl, ⟨nd2, rfl⟩⟩) | (go_at_call 168; refine (hlo _).mono ?_; rintro e w' ⟨rfl, hB2⟩))
            go_region_with (first | (go_at_call 168; refine (hlo _).mono ?_; rintro e w' ⟨rfl, hB2⟩))
            go_wp2
            go_ret3
            exact ⟨by repeat (first | exact below_then (pw_below_drewN A1.out _) A1.out.size hB2 | apply pw_below_drewN | apply below_drew1), _, _, rfl⟩
/-- a name: letters, digits, dashes, small, a letter first, at most 20 -/
def nameV (l : List UInt8) : Bool := nameOk l && (decide (lead l = l.length) && ((lowTV (l.take (lead l))).toList == (⟨l.toArray⟩ : ByteArray).toList))
set_option maxHeartbeats 4000000 in
set_option maxRecDepth 400000 in
theorem Name_any (s : ByteArray) (w : World) (hs : s.size < 4294967281) :
    Calls Tryz.prog 94 #[.string s] w fun e w' => e = .returned (.bool (nameV s.data.toList)) ∧ Below w.heap.size w w' := by
  have hconv := Lib.run_convert_string_bytes (P := Tryz.prog) w 9 97 5 s Tryz.underlying9 Tryz.underlying97 Tryz.underlying5
  have h0 := TAt.start s w 5
  have hsz : w.heap.size < (Lib.bytesWorld w 5 s).heap.size := by rw [Lib.bytesWorld_size]; omega
  obtain ⟨W1, hW1⟩ : ∃ W1, Lib.bytesWorld w 5 s = W1 := ⟨_, rfl⟩
  obtain ⟨cap, hcap⟩ : ∃ cap, grownCap w s.size 0 5 = cap := ⟨_, rfl⟩
  rw [hW1] at h0 hconv hsz
  rw [hcap] at hconv
  have hcl : s.data.toList.length = s.size := (Lib.size_eq s).symm
  have hcp : s.size ≤ cap := by
    rw [← hcap]
    exact grownCap_ge _ _ _ _
  have hname := name_any s.data.toList w.heap.size cap W1 (fun j hj => by
    rw [(h0.1 j (by omega)).1]
    unfold tAt
    rw [if_neg (by omega)]) hsz (by omega) (by omega)
  rw [hcl] at hname
  have H0 : Aside (TAt s w.heap.size w W1 0) := h0
  have hB0 : Below w.heap.size w W1 := h0.2
  obtain ⟨v, hv⟩ : ∃ v, nameV s.data.toList = v := ⟨_, rfl⟩
  have HV : Aside (nameV s.data.toList = v) := hv
  rw [hv]
  have hll := lead_le s.data.toList
  rw [hcl] at hll
  obtain ⟨m, hm⟩ : ∃ m, lead s.data.toList = m := ⟨_, rfl⟩
  obtain ⟨T, hT⟩ : ∃ T, lowTV (s.data.toList.take m) = T := ⟨_, rfl⟩
  have HM : Aside (lead s.data.toList = m ∧ lowTV (s.data.toList.take m) = T) := ⟨hm, hT⟩
  rw [hm] at hname hll
  rw [hT] at hname
  clear hW1 hcap h0 hv hm hT
  cases hn : nameOk s.data.toList with
  | false =>
    have HN : Aside (nameOk s.data.toList = false) := hn
    rw [hn] at hname
    simp only [Bool.false_eq_true, if_false] at hname
    clear hn
    go_enter Tryz.func94, Tryz.ntmps94
    go_wp2_with (first | (go_at_call 134; refine hname.mono ?_; rintro e w' ⟨hB, A, c, rfl⟩))
    go_ret
    refine ⟨?_, below_then hB0 (Nat.le_of_lt hsz) hB⟩
    rw [← HV.out]
    unfold nameV
    rw [HN.out]
    rfl
  | true =>
    have HN : Aside (nameOk s.data.toList = true) := hn
    rw [hn] at hname
    simp only [if_true] at hname
    clear hn
    have hq : (((s.size - m : Nat) : Int) == 0) = decide (m = s.size) := by
      rw [Bool.eq_iff_iff, beq_iff_eq, decide_eq_true_eq]
      omega
    by_cases hms : m = s.size
    · rw [decide_eq_true hms] at hq
      go_enter Tryz.func94, Tryz.ntmps94
      go_wp2_with (first | (go_at_call 134; refine hname.mono ?_; rintro e w' ⟨hB, A, c, rfl⟩))
      go_ret
      refine ⟨?_, below_then hB0 (Nat.le_of_lt hsz) hB⟩
      rw [← HV.out]
      unfold nameV
      rw [HN.out, HM.out.1, hcl, decide_eq_true hms, HM.out.2]
      rfl
    · rw [decide_eq_false hms] at hq
      go_enter Tryz.func94, Tryz.ntmps94
      go_wp2_with (first | (go_at_call 134; refine hname.mono ?_; rintro e w' ⟨hB, A, c, rfl⟩))
      go_ret
      refine ⟨?_, below_then hB0 (Nat.le_of_lt hsz) hB⟩
      rw [← HV.out]
      unfold nameV
      rw [HN.out, HM.out.1, hcl, decide_eq_false hms]
      rfl
end Go.Proofs.Tok
set_option linter.unusedVariables false
namespace Go.Proofs.Tok
open Go.RowKit Go.Lib Go.Shelf
def growRen : Go.Shelf.Ren := ⟨fun | 4 => 133 | n => n, fun | 0 => 0 | 3 => 3 | 4 => 4 | 9 => 9 | 20 => 20 | 22 => 76 | 25 => 9 | n => n, fun | n => n⟩
theorem growLays : Lays8.n4 Tryz.prog growRen := {
  mixed := by kernel_rfl
  f4 := ⟨Tryz.f133.name, by kernel_rfl, Tryz.func133.trans (congrArg some (by kernel_rfl))⟩
  t0 := Tryz.underlying0
  a0 := Tryz.isAgg0
  z0 := Tryz.sizeOf0
  v0 := Tryz.zeroValue0
  t3 := Tryz.underlying3
  a3 := Tryz.isAgg3
  z3 := Tryz.sizeOf3
  v3 := Tryz.zeroValue3
  t4 := Tryz.underlying4
  a4 := Tryz.isAgg4
  z4 := Tryz.sizeOf4
  v4 := Tryz.zeroValue4
  t9 := Tryz.underlying9
  a9 := Tryz.isAgg9
  z9 := Tryz.sizeOf9
  v9 := Tryz.zeroValue9
  t20 := Tryz.underlying20
  a20 := Tryz.isAgg20
  z20 := Tryz.sizeOf20
  v20 := Tryz.zeroValue20
  t22 := Tryz.underlying76
  a22 := Tryz.isAgg76
  z22 := Tryz.sizeOf76
  v22 := Tryz.zeroValue76 }
end Go.Proofs.Tok
set_option linter.unusedSimpArgs false
namespace Go.Proofs.Tok
open Go.RowKit Go.Lib Go.Proofs.YtolfpgccebdlpaaGreatDoorW.PrintWords Go.Proofs.YtolfpgccebdlpaaGreatDoorW.PrintLast Go.Proofs.YtolfpgccebdlpaaGreatDoorW.PrintMore
theorem infoS : (Tryz.prog.info? 9).map (fun i => (i.zero, i.size, i.bytes)) = some (some (.string ⟨#[]⟩), 1, 16) := by kernel_rfl
theorem grow_strs (n : Nat) (w : World) (hn : n * 16 ≤ 140737488355328) :
    Calls Tryz.prog 133 #[.slice none 0 0, .int .i64 n] w fun e w' => ∃ v, e = .returned v ∧ Kd.R Kd.string 9 w' w.heap.size (fun _ => True) v [] ∧ Below w.heap.size w w' := by
  by_cases h0 : n = 0
  · subst h0
    refine (Any8.slices_Grow_room growLays none 0 0 0 w (Nat.le_refl _) (by omega) (by omega) (Nat.le_refl _)).mono ?_
    rintro e w' ⟨rfl, rfl⟩
    exact ⟨_, rfl, Kd.R_nil _ _ _ _ _, Below.refl _ _⟩
  · obtain ⟨i0, hi, hz⟩ := Option.map_eq_some_iff.1 infoS
    simp only [Prod.mk.injEq] at hz
    obtain ⟨hz0, hz1, hz2⟩ := hz
    refine (Any8.slices_Grow_grow growLays i0 _ hi hz0 (by omega) none 0 0 n [] w (Nat.le_refl _) (by omega) (by rw [hz2]; omega) (by omega) (by simp) (fun _ => rfl) (fun a ha => by cases ha)).mono ?_
    rintro e w' ⟨rfl, rfl⟩
    have hge := grownCap_ge w (0 + n) 0 9
    have hle := grownCap_le_maxLen w (0 + n) 0 9 (by simp only [maxLen]; omega)
    refine ⟨_, rfl, ⟨fun _ _ => trivial, [], ⟨rfl, .inr ⟨w.heap.size, _, _, rfl, Nat.le_refl _, heap_alloc_new w.drew _, Nat.zero_le _, hle, ?_, by simp⟩⟩, Reps.none _ _⟩, ?_⟩
    · show _ = grownCap w (0 + n) 0 9 * 1
      have hg : growRen.t 25 = 9 := rfl
      have hc : (Value.string { data := #[] }).cells.size = 1 := rfl
      simp only [Builtin.zeroCells, hg]
      simp [hc]
      simp at hge
      omega
    · repeat (first | exact Below.refl _ _ | apply below_alloc | apply below_drew1)
set_option maxHeartbeats 4000000 in
set_option maxRecDepth 400000 in
theorem concat_any (a b : List ByteArray) (A0 A1 : Option Addr) (c0 c1 S : Nat) (w : World) (hS : S < w.heap.size) (h0 : w.cell? ⟨S, 0, none⟩ = some (.slice A0 a.length c0)) (h1 : w.cell? ⟨S, 1, none⟩ = some (.slice A1 b.length c1))
    (C0 : Kd.C Kd.string w A0 a.length a) (C1 : Kd.C Kd.string w A1 b.length b) (hsz : (a.length + b.length) * 16 ≤ 140737488355328) :
    Calls Tryz.prog 93 #[.slice (some ⟨S, 0, none⟩) 2 2] w fun e w' => ∃ v, e = .returned v ∧ Kd.R Kd.string 9 w' w.heap.size (fun _ => True) v (a ++ b) ∧ Below w.heap.size w w' := by
  have D0 := Aside0.mk C0
  have D1 := Aside0.mk C1
  have LS := Aside0.mk hsz
  have z0 : wrap64 (0 + (a.length : Int)) = (a.length : Int) := by unfold wrap64; omega
  have z1 : wrap64 ((a.length : Int) + (b.length : Int)) = ((a.length + b.length : Nat) : Int) := by unfold wrap64; omega
  have hgr := grow_strs (a.length + b.length)
  clear C0 C1 hsz
  go_enter Tryz.func93, Tryz.ntmps93
  go_wp2
  go_loopw [3, 5, 11, 12, 13, 14, 15, 16, 17, 18, 19, 20, 22] (fun s _ i _ _ _ _ _ _ _ _ _ _ wr => ∃ k : Nat, k ≤ 2 ∧ i = .int .i64 k ∧ s = .int .i64 (if k = 0 then 0 else if k = 1 then (a.length : Int) else ((a.length + b.length : Nat) : Int)) ∧ Aside0 (Below w.heap.size w wr)) (fun _ _ i _ _ _ _ _ _ _ _ _ _ _ => 2 - (RowKit.intOf i).toNat)
  case atStart => exact ⟨0, by omega, rfl, rfl, ⟨Below.refl _ _⟩⟩
  case round =>
    obtain ⟨k, hk, rfl, rfl, B1⟩ := hrel
    have hls := LS.out
    have hk3 : k = 0 ∨ k = 1 ∨ k = 2 := by omega
    rcases hk3 with rfl | rfl | rfl
    · have hc0 : wr.cell? ⟨S, 0, none⟩ = some (.slice A0 a.length c0) := (B1.out.cell hS).trans h0
      have hn : decide (wrap64 (a.length : Int) < 0) = false := decide_eq_false (by unfold wrap64; omega)
      have hn2 : ¬ (wrap64 (a.length : Int) < 0) := by unfold wrap64; omega
      have hw : wrap64 (a.length : Int) = (a.length : Int) := by unfold wrap64; omega
      go_wp2
      exact ⟨⟨1, by omega, by go_num, by first | rfl | (rw [hw]; rfl) | (rw [z0]; rfl), B1⟩, by simp [RowKit.intOf]⟩
    · have hc1 : wr.cell? ⟨S, 1, none⟩ = some (.slice A1 b.length c1) := (B1.out.cell hS).trans h1
      have hn : decide (wrap64 ((a.length : Int) + (b.length : Int)) < 0) = false := decide_eq_false (by unfold wrap64; omega)
      have hn2 : ¬ (wrap64 ((a.length : Int) + (b.length : Int)) < 0) := by unfold wrap64; omega
      go_wp2
      exact ⟨⟨2, by omega, by go_num, by first | rfl | (rw [z1]; rfl), B1⟩, by simp [RowKit.intOf]⟩
    · clear hls
      go_wp2_with (first | (go_at_call 133; refine (hgr _ LS.out).mono ?_; rintro e w' ⟨vg, rfl, hR, hB⟩; have HG := Aside0.mk hR; have HBG := Aside0.mk hB; clear hR hB))
      have HB1 := Aside0.mk (below_then B1.out B1.out.size HBG.out)
      have HG1 := Aside0.mk (Kd.R_lower HG.out B1.out.size)
      clear HG HBG B1
      go_loopw [6, 8, 27, 28, 29, 30, 31, 32, 33, 34] (fun v _ i _ _ _ _ _ _ _ wr => ∃ k : Nat, k ≤ 2 ∧ i = .int .i64 k ∧ Aside0 (Kd.R Kd.string 9 wr w.heap.size (fun _ => True) v (if k = 0 then [] else if k = 1 then a else a ++ b)) ∧ Aside0 (Below w.heap.size w wr)) (fun _ _ i _ _ _ _ _ _ _ _ => 2 - (RowKit.intOf i).toNat)
      case atStart => exact ⟨0, by omega, rfl, HG1, HB1⟩
      case round =>
        obtain ⟨k, hk, rfl, HR, B2⟩ := hrel
        have hk3 : k = 0 ∨ k = 1 ∨ k = 2 := by omega
        rcases hk3 with rfl | rfl | rfl
        · have hc0 : wr.cell? ⟨S, 0, none⟩ = some (.slice A0 a.length c0) := (B2.out.cell hS).trans h0
          go_wp2_with (first | ((with_reducible refine gate_builtin (b := .append) (xs := #[.tmp 31, .tmp 32]) rfl ?_); at_builtin; refine Kd.R_append_rows Kd.string (w0 := w) w.heap.size rfl (.tmp 31) (.tmp 32) 76 9 (.string ⟨#[]⟩) 16 rfl Tryz.underlying76 infoS rfl (by decide) (by omega) u6 [] a _ _ _ (fun _ => True) (fun _ => False) rfl rfl HR.out ?aR (fun _ _ h => h) (fun _ h => h.elim) (fun _ _ => trivial) B2.out B2.out.size ?aL ?_; (case aR => exact Kd.C_below D0.out B2.out); (case aL => have := LS.out; first | (simp; omega) | omega); intro v2 w2 ho hb hg hat; have n0_ := Aside0.mk hb; have n1_ := Aside0.mk ho; clear B2 HR ho hb hg hat))
          exact ⟨⟨1, by omega, by go_num, n1_, n0_⟩, by simp [RowKit.intOf]⟩
        · have hc1 : wr.cell? ⟨S, 1, none⟩ = some (.slice A1 b.length c1) := (B2.out.cell hS).trans h1
          go_wp2_with (first | ((with_reducible refine gate_builtin (b := .append) (xs := #[.tmp 31, .tmp 32]) rfl ?_); at_builtin; refine Kd.R_append_rows Kd.string (w0 := w) w.heap.size rfl (.tmp 31) (.tmp 32) 76 9 (.string ⟨#[]⟩) 16 rfl Tryz.underlying76 infoS rfl (by decide) (by omega) u6 a b _ _ _ (fun _ => True) (fun _ => False) rfl rfl HR.out ?aR (fun _ _ h => h) (fun _ h => h.elim) (fun _ _ => trivial) B2.out B2.out.size ?aL ?_; (case aR => exact Kd.C_below D1.out B2.out); (case aL => have := LS.out; first | (simp; omega) | omega); intro v2 w2 ho hb hg hat; have n0_ := Aside0.mk hb; have n1_ := Aside0.mk ho; clear B2 HR ho hb hg hat))
          exact ⟨⟨2, by omega, by go_num, n1_, n0_⟩, by simp [RowKit.intOf]⟩
        · go_wp2
          go_ret
          exact ⟨_, rfl, HR.out, B2.out⟩
end Go.Proofs.Tok
namespace Go.Proofs.Tok
open Go.RowKit Go.Lib Go.Proofs.YtolfpgccebdlpaaGreatDoorW.PrintWords Go.Proofs.YtolfpgccebdlpaaGreatDoorW.PrintLast Go.Proofs.YtolfpgccebdlpaaGreatDoorW.PrintMore
def noName (s : ByteArray) : Bool := !nameV s.data.toList
set_option maxHeartbeats 2000000 in
set_option maxRecDepth 400000 in
theorem mayf_any (s : ByteArray) (w : World) (hs : s.size < 4294967281) :
    Calls Tryz.prog 96 #[.string s] w fun e w' => e = .returned (.bool (noName s)) ∧ Below w.heap.size w w' := by
  have hn := fun w => Name_any s w hs
  unfold noName
  generalize nameV s.data.toList = b at hn ⊢
  go_enter Tryz.func96, Tryz.ntmps96
  go_wp2_with (first | (go_at_call 94; refine (hn _).mono ?_; rintro e w' ⟨rfl, hB⟩))
  go_ret
  exact ⟨rfl, hB⟩
set_option maxHeartbeats 4000000 in
set_option maxRecDepth 400000 in
theorem index_strs (xs : List ByteArray) (A : Option Addr) (c : Nat) (w : World) (C : Kd.C Kd.string w A xs.length xs) (hl : xs.length ≤ 8796093022208) (hs : ∀ s ∈ xs, s.size < 4294967281) :
    Calls Tryz.prog 135 #[.slice A xs.length c, .func (.func 96) #[] #[]] w fun e w' => Below w.heap.size w w' ∧ ∃ i : Int, e = .returned (.int .i64 i) ∧ decide (0 ≤ i) = xs.any noName := by
  have C0 := Aside0.mk C
  have HS := Aside0.mk hs
  clear C hs
  go_enter Tryz.func135, Tryz.ntmps135
  go_wp2
  go_loopw [5, 8, 9, 10, 11, 12, 13, 14, 15, 16, 18] (fun _ i _ _ _ _ _ _ _ _ _ wr => ∃ k : Nat, k ≤ xs.length ∧ i = .int .i64 k ∧ Aside0 ((xs.take k).any noName = false) ∧ Aside0 (Below w.heap.size w wr)) (fun _ i _ _ _ _ _ _ _ _ _ _ => xs.length - (RowKit.intOf i).toNat)
  case atStart => exact ⟨0, Nat.zero_le _, rfl, ⟨rfl⟩, ⟨Below.refl _ _⟩⟩
  case round =>
    obtain ⟨k, hk, rfl, N1, B1⟩ := hrel
    by_cases hlt : k < xs.length
    · have g1 : decide ((k : Int) < (xs.length : Int)) = true := decide_eq_true (by omega)
      obtain ⟨ad, e, hc⟩ := Kd.at_string C0.out (k : Int) (by omega) (by omega)
      subst e
      have hg : rdOf ByteArray.empty xs (k : Int) = xs[k] := by
        unfold rdOf
        rw [Int.toNat_natCast, List.getD, List.getElem?_eq_getElem hlt]
        rfl
      rw [hg, Int.toNat_natCast] at hc
      have hc2 : wr.cell? (ad.add k) = some (.string xs[k]) := (B1.out.cell (World.block_lt_of_cell? _ _ hc)).trans hc
      have hx := fun w => mayf_any xs[k] w (HS.out _ (List.getElem_mem hlt))
      have T1 : Aside0 ((xs.take (k + 1)).any noName = ((xs.take k).any noName || noName xs[k])) := ⟨by rw [List.take_succ_eq_append_getElem hlt, List.any_append]; simp⟩
      have T2 : Aside0 (noName xs[k] = true → xs.any noName = true) := ⟨fun h => List.any_eq_true.2 ⟨xs[k], List.getElem_mem hlt, h⟩⟩
      generalize xs[k] = x at hx hc2 T1 T2
      obtain ⟨b, hb⟩ : ∃ b, noName x = b := ⟨_, rfl⟩
      have HN := Aside0.mk hb
      rw [hb] at hx
      clear hc hg hb
      cases b with
      | true =>
        go_wp2_with (first | (go_at_call 96; refine (hx _).mono ?_; rintro e w' ⟨rfl, hB⟩))
        go_ret
        exact ⟨below_then B1.out B1.out.size hB, _, rfl, by rw [T2.out HN.out]; simp⟩
      | false =>
        go_wp2_with (first | (go_at_call 96; refine (hx _).mono ?_; rintro e w' ⟨rfl, hB⟩))
        exact ⟨⟨k + 1, by omega, by go_num, ⟨by rw [T1.out, N1.out, HN.out]; rfl⟩, ⟨below_then B1.out B1.out.size hB⟩⟩, by simp [RowKit.intOf]; omega⟩
    · obtain rfl : k = xs.length := by omega
      have g1 : decide ((xs.length : Int) < (xs.length : Int)) = false := decide_eq_false (by omega)
      have hN := N1.out
      rw [List.take_length] at hN
      have N2 := Aside0.mk hN
      clear hN N1
      go_wp2
      go_ret
      exact ⟨B1.out, _, rfl, by rw [N2.out]; rfl⟩
set_option maxHeartbeats 2000000 in
set_option maxRecDepth 400000 in
theorem contains_strs (xs : List ByteArray) (A : Option Addr) (c : Nat) (w : World) (C : Kd.C Kd.string w A xs.length xs) (hl : xs.length ≤ 8796093022208) (hs : ∀ s ∈ xs, s.size < 4294967281) :
    Calls Tryz.prog 95 #[.slice A xs.length c, .func (.func 96) #[] #[]] w fun e w' => e = .returned (.bool (xs.any noName)) ∧ Below w.heap.size w w' := by
  have hi := index_strs xs A c w C hl hs
  clear C hs
  generalize xs.any noName = r at hi ⊢
  go_enter Tryz.func95, Tryz.ntmps95
  go_wp2_with (first | (go_at_call 135; refine hi.mono ?_; rintro e w' ⟨hB, i, rfl, hd⟩))
  go_ret
  exact ⟨by rw [← hd]; rfl, hB⟩
end Go.Proofs.Tok
