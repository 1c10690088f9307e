/- scan.Lower and a row of texts: contracts of functions of the given program, proved by walking their text; no condition beside those that each theorem states. -/
import Derived.Test.YtolfpgccebdlpaaGreatDoorSh
import Derived.Test.YtolfpgccebdlpaaGreatDoorShX
import Derived.Test.YtolfpgccebdlpaaGreatDoorWWords
import Derived.Laws.BytesArg
import Derived.Lib.ConvBytes
import Derived.Deep.LoopGhost
import Derived.IntWalk
import Derived.Lib.Hide
import Derived.RangeFuncNested
import Derived.RangeFuncBound
import Derived.RangeFuncCalls
import Derived.RangeFuncLeaves
import Derived.Shelf.Abstract
import Derived.Shelf.RegionOpen
import Derived.WalkKit
import Derived.OwnWalkIn
import Derived.TacticsInMore
import Derived.LoopNIn
import Derived.LoopIn
import Derived.Maps.AppendAt
set_option linter.unusedVariables false
set_option linter.unusedSimpArgs false
namespace Go.Proofs.Scn
open Go.RowKit Go.Lib Go.Proofs.YtolfpgccebdlpaaGreatDoorW.PrintWords
def lowB (c : UInt8) : UInt8 := if 65 ≤ c.toNat ∧ c.toNat ≤ 90 then c + 32 else c
def lowV (s : ByteArray) : ByteArray := ⟨(s.data.toList.map lowB).toArray⟩
def lowAt (l : List UInt8) (k j : Nat) : Int := ((if j < k then lowB (l.getD j 0) else l.getD j 0).toNat : Int)
theorem lowAt_next {l : List UInt8} {k j : Nat} (h : j ≠ k) : lowAt l (k + 1) j = lowAt l k j := by
  unfold lowAt
  by_cases h1 : j < k
  · rw [if_pos h1, if_pos (by omega)]
  · rw [if_neg h1, if_neg (by omega)]
theorem lowAt_same (l : List UInt8) (k : Nat) : lowAt l (k + 1) k = ((lowB (l.getD k 0)).toNat : Int) := by
  unfold lowAt
  rw [if_pos (by omega)]
theorem lowB_yes {c : UInt8} (h1 : 65 ≤ c.toNat) (h2 : c.toNat ≤ 90) : ((lowB c).toNat : Int) = (c.toNat : Int) + 32 := by
  unfold lowB
  rw [if_pos ⟨h1, h2⟩]
  have : (c + 32).toNat = (c.toNat + 32) % 256 := by simp
  omega
theorem lowB_no {c : UInt8} (h : ¬ (65 ≤ c.toNat ∧ c.toNat ≤ 90)) : lowB c = c := by unfold lowB; rw [if_neg h]
def LowAt (s : ByteArray) (B : Nat) (w wr : World) (k : Nat) : Prop := (∀ j, j < s.size → wr.cell? ⟨B, j, none⟩ = some (.int .u8 (lowAt s.data.toList k j)) ∧ wr.frozen? ⟨B, j, none⟩ = false) ∧ Below w.heap.size w wr
theorem LowAt.start (s : ByteArray) (w : World) (e : TypeId) : LowAt s w.heap.size w (Lib.bytesWorld w e s) 0 := by
  refine ⟨fun j hj => ⟨?_, ?_⟩, ?_⟩
  · rw [Lib.bytesWorld_cell w e s j hj]
    unfold lowAt
    rw [if_neg (by omega)]
  · simp only [World.frozen?, Lib.bytesWorld_at_new]
    have : (Lib.bytesCells w e s).size ≥ s.size := by
      simp only [Lib.bytesCells, Array.size_append, Array.size_map]
      have : s.data.size = s.size := rfl
      omega
    simp
    omega
  · refine ⟨rfl, rfl, rfl, by rw [Lib.bytesWorld_size]; omega, fun k hk => Lib.bytesWorld_at_old w e s k hk⟩
theorem LowAt.keep {s : ByteArray} {B k : Nat} {w wr : World} (h : LowAt s B w wr k) (hk : k < s.size) (hn : ¬ (65 ≤ (s.data.toList.getD k 0).toNat ∧ (s.data.toList.getD k 0).toNat ≤ 90)) : LowAt s B w wr (k + 1) := by
  refine ⟨fun j hj => ⟨?_, (h.1 j hj).2⟩, h.2⟩
  rw [(h.1 j hj).1]
  by_cases e : j = k
  · subst e
    rw [lowAt_same, lowB_no hn]
    unfold lowAt
    rw [if_neg (by omega)]
  · rw [lowAt_next e]
theorem LowAt.put {s : ByteArray} {B k : Nat} {w wr : World} (h : LowAt s B w wr k) (hB : w.heap.size ≤ B) (hk : k < s.size) {v : Int} (hv : v = ((lowB (s.data.toList.getD k 0)).toNat : Int)) : LowAt s B w (wr.setCell ⟨B, k, none⟩ (.int .u8 v)) (k + 1) := by
  refine ⟨fun j hj => ⟨?_, by rw [World.frozen?_setCell]; exact (h.1 j hj).2⟩, h.2.setCell (p := ⟨B, k, none⟩) hB _⟩
  by_cases e : j = k
  · subst e
    rw [lowAt_same, ← hv]
    exact World.cell?_setCell_same' _ _ _ (by rw [(h.1 j hj).1]; rfl)
  · rw [lowAt_next e, ← (h.1 j hj).1]
    exact World.cell?_setCell_other _ _ _ _ (by intro q; injection q with _ q; exact e q.symm)
theorem lowV_nums (s : ByteArray) : strOfNums ((List.range s.size).map (lowAt s.data.toList s.size)) = lowV s := by
  unfold strOfNums lowV
  congr 2
  refine List.ext_getElem? fun j => ?_
  rw [List.map_map, List.getElem?_map, List.getElem?_map]
  by_cases h : j < s.size
  · have h' : j < s.data.toList.length := by rw [← Lib.size_eq]; exact h
    rw [List.getElem?_range h, List.getElem?_eq_getElem h']
    have e : s.data.toList.getD j 0 = s.data.toList[j] := by rw [List.getD_eq_getElem?_getD, List.getElem?_eq_getElem h']; rfl
    simp only [Option.map_some, Function.comp_apply, lowAt]
    rw [if_pos h, e]
    simp
  · have h' : ¬ j < s.data.toList.length := by rw [← Lib.size_eq]; exact h
    rw [List.getElem?_eq_none (by simpa using h), List.getElem?_eq_none (by omega)]
    rfl
set_option maxHeartbeats 2000000 in
set_option maxRecDepth 100000 in
theorem lower_any (s : ByteArray) (w : World) (hs : s.size < 4294967281) :
    Calls Tryz.prog 41 #[.string s] w fun e w' => e = .returned (.string (lowV s)) ∧ Below w.heap.size w w' := by
  have h0 := LowAt.start s w 5
  have hconv := Lib.run_convert_string_bytes (P := Tryz.prog) w 9 97 5 s Tryz.underlying9 Tryz.underlying97 Tryz.underlying5
  obtain ⟨W1, hW1⟩ : ∃ W1, Lib.bytesWorld w 5 s = W1 := ⟨_, rfl⟩
  obtain ⟨cap, hcap⟩ : ∃ cap, grownCap w s.size 0 5 = cap := ⟨_, rfl⟩
  rw [hW1] at h0 hconv
  rw [hcap] at hconv
  have H0 : Aside (LowAt s w.heap.size w W1 0) := h0
  clear hW1 hcap h0
  go_enter Tryz.func41, Tryz.ntmps41
  go_wp2
  clear hconv
  obtain ⟨n, hn⟩ : ∃ n, n = s.size := ⟨_, rfl⟩
  go_loopw [10, 11, 12, 13, 14, 4, 5, 15, 16, 17, 18, 19, 20, 21, 22, 23, 24, 25, 26, 27] (fun i _ _ _ _ _ _ _ _ _ _ _ _ _ _ _ _ _ _ _ wr => ∃ k : Nat, k ≤ s.size ∧ i = .int .i64 k ∧ Aside (LowAt s w.heap.size w wr k)) (fun i _ _ _ _ _ _ _ _ _ _ _ _ _ _ _ _ _ _ _ _ => s.size - (RowKit.intOf i).toNat)
  case atStart => exact ⟨0, Nat.zero_le _, rfl, H0.out⟩
  case round =>
    clear H0
    obtain ⟨k, hk, rfl, A1⟩ := hrel
    by_cases hlt : k < s.size
    · have hltz : (k : Int) < (s.size : Int) := by omega
      obtain ⟨c, hc⟩ : ∃ c, s.data.toList.getD k 0 = c := ⟨_, rfl⟩
      have hcell : wr.cell? ⟨w.heap.size, k, none⟩ = some (.int .u8 (c.toNat : Int)) := by
        rw [(A1.out.1 k hlt).1]
        unfold lowAt
        rw [if_neg (by omega), hc]
      have hfz := (A1.out.1 k hlt).2
      have HC : Aside (s.data.toList.getD k 0 = c) := hc
      have hc256 : c.toNat < 256 := c.toNat_lt
      clear hc
      by_cases h1 : 65 ≤ c.toNat
      · by_cases h2 : c.toNat ≤ 90
        · have g1 : decide ((65 : Int) ≤ (c.toNat : Int)) = true := decide_eq_true (by omega)
          have g2 : decide ((c.toNat : Int) ≤ (90 : Int)) = true := decide_eq_true (by omega)
          go_wp2
          refine ⟨⟨k + 1, by omega, by go_num, A1.out.put (Nat.le_refl _) hlt ?_⟩, by simp [RowKit.intOf]; omega⟩
          rw [HC.out, lowB_yes h1 h2]
          omega
        · have g1 : decide ((65 : Int) ≤ (c.toNat : Int)) = true := decide_eq_true (by omega)
          have g2 : decide ((c.toNat : Int) ≤ (90 : Int)) = false := decide_eq_false (by omega)
          go_wp2
          exact ⟨⟨k + 1, by omega, by go_num, A1.out.keep hlt (by rw [HC.out]; omega)⟩, by simp [RowKit.intOf]; omega⟩
      · have g1 : decide ((65 : Int) ≤ (c.toNat : Int)) = false := decide_eq_false (by omega)
        go_wp2
        exact ⟨⟨k + 1, by omega, by go_num, A1.out.keep hlt (by rw [HC.out]; omega)⟩, by simp [RowKit.intOf]; omega⟩
    · obtain rfl : k = s.size := by omega
      have hltz : ¬ ((s.size : Int) < (s.size : Int)) := by omega
      have hcv := run_convert_bytes_arg (P := Tryz.prog) wr 97 5 Tryz.underlying97 Tryz.underlying5 w.heap.size 0 s.size cap ((List.range s.size).map (lowAt s.data.toList s.size)) (by simp) (fun i hi => by rw [Nat.zero_add, (A1.out.1 i hi).1]; simp [List.getD, hi]) 9 Tryz.underlying9
      rw [lowV_nums] at hcv
      go_wp2
      go_ret
      exact ⟨rfl, A1.out.2⟩
end Go.Proofs.Scn
set_option linter.unusedVariables false
set_option linter.unusedSimpArgs false
namespace Go.Proofs.Scn
open Go.RowKit Go.Lib Go.Proofs.YtolfpgccebdlpaaGreatDoorW.PrintWords
def stripF : Nat → List UInt8 → List UInt8
  | 0, _ => []
  | k + 1, s => if (Lib.cut s [47, 42]).2.2 = true then (Lib.cut s [47, 42]).1 ++ 32 :: stripF k (Lib.cut (Lib.cut s [47, 42]).2.1 [42, 47]).2.1 else (Lib.cut s [47, 42]).1
def stripV (s : ByteArray) : ByteArray := ⟨(stripF (s.size + 1) s.data.toList).toArray⟩
theorem cut_yes {s sep : List UInt8} (h : (Lib.cut s sep).2.2 = true) : (Lib.cut s sep).1.length + sep.length + (Lib.cut s sep).2.1.length = s.length := by
  unfold Lib.cut at h ⊢
  by_cases c : 0 ≤ Lib.index s sep
  · rw [if_pos c]
    have := Lib.index_room s sep c
    simp only [List.length_take, List.length_drop]
    omega
  · rw [if_neg c] at h
    cases h
theorem cut_no {s sep : List UInt8} (h : (Lib.cut s sep).2.2 = false) : (Lib.cut s sep).1 = s := by
  unfold Lib.cut at h ⊢
  by_cases c : 0 ≤ Lib.index s sep
  · rw [if_pos c] at h
    cases h
  · rw [if_neg c]
theorem cut_rest_le (s sep : List UInt8) : (Lib.cut s sep).2.1.length ≤ s.length := by
  unfold Lib.cut
  split
  · simp
  · simp
def Mx (w : World) : Prop := ∃ m, w.cell? ⟨0, 0, none⟩ = some (.int .i64 m)
theorem Mx.below {w w' : World} (h : Mx w) (hb : Below w.heap.size w w') : Mx w' := by
  obtain ⟨m, hm⟩ := h
  exact ⟨m, (hb.cell (p := ⟨0, 0, none⟩) (World.block_lt_of_cell? _ _ hm)).trans hm⟩
theorem Mx.draws {w : World} (h : Mx w) (n : Nat) : Mx (w.drewN n) := h
theorem cut_at (s : List UInt8) (sep : ByteArray) (w : World) (hs : s.length < 4294967281) (hm : Mx w) (a b : List UInt8) (is : Bool) (h : Lib.cut s sep.data.toList = (a, b, is)) :
    Calls Tryz.prog 102 #[.string ⟨s.toArray⟩, .string sep] w fun e w' => e = .returned (.tuple #[.string ⟨a.toArray⟩, .string ⟨b.toArray⟩, .bool is]) ∧ ∃ n, w' = w.drewN n := by
  obtain ⟨m, hm⟩ := hm
  have c := Tryz.strings_Cut ⟨s.toArray⟩ sep m w (by simpa [Lib.size_mk] using hs) hm
  rw [show (⟨s.toArray⟩ : ByteArray).data.toList = s by simp, h] at c
  exact c
theorem strip_no {k : Nat} {s : List UInt8} (h : (Lib.cut s [47, 42]).2.2 = false) : stripF (k + 1) s = s := by
  rw [stripF, if_neg (by rw [h]; decide), cut_no h]
theorem strip_yes {k : Nat} {s : List UInt8} (h : (Lib.cut s [47, 42]).2.2 = true) : stripF (k + 1) s = (Lib.cut s [47, 42]).1 ++ 32 :: stripF k (Lib.cut (Lib.cut s [47, 42]).2.1 [42, 47]).2.1 := by
  rw [stripF, if_pos h]
def StAt (s : ByteArray) (w wr : World) (rest acc : List UInt8) (fuel : Nat) : Prop := Lib.IsBuilder 99 5 w.heap.size w.heap.size (Lib.byteCells acc) wr ∧ Below w.heap.size w wr ∧ Mx wr ∧ acc ++ stripF fuel rest = stripF (s.size + 1) s.data.toList ∧ rest.length < fuel ∧ acc.length + rest.length ≤ s.size
set_option maxHeartbeats 4000000 in
set_option maxRecDepth 100000 in
theorem strip_any (s : ByteArray) (w : World) (hs : s.size < 4294967281) (hm : Mx w) :
    Calls Tryz.prog 65 #[.string s] w fun e w' => e = .returned (.string (stripV s)) ∧ Below w.heap.size w w' := by
  have hBw : w.heap.size < (w.alloc (.cells #[.pointer none, .slice none 0 0] 99)).heap.size := by simp
  have h0 : Aside (StAt s w (w.alloc (.cells #[.pointer none, .slice none 0 0] 99)) s.data.toList [] (s.size + 1)) :=
    ⟨Lib.fresh_isBuilder _ _ w, (Below.refl _ w).alloc (Nat.le_refl _) _, hm.below ((Below.refl _ w).alloc (Nat.le_refl _) _), rfl, by rw [← Lib.size_eq]; omega, by rw [← Lib.size_eq]; simp⟩
  have HM : Aside (Mx w) := hm
  clear hm hBw
  go_enter Tryz.func65, Tryz.ntmps65
  go_wp2
  go_loopw [0] (fun v wr => ∃ (rest acc : List UInt8) (fuel : Nat), v = .string ⟨rest.toArray⟩ ∧ Aside (StAt s w wr rest acc fuel)) (fun v _ => match v with | .string x => x.size | _ => 0)
  case atStart => exact ⟨s.data.toList, [], s.size + 1, rfl, h0.out⟩
  case round =>
    clear h0
    obtain ⟨rest, acc, fuel, rfl, A1⟩ := hrel
    obtain ⟨fu, rfl⟩ : ∃ fu, fuel = fu + 1 := ⟨fuel - 1, by have := A1.out.2.2.2.2.1; omega⟩
    have hrl : rest.length ≤ s.size := by have := A1.out.2.2.2.2.2; omega
    obtain ⟨a, b, is, hc⟩ : ∃ a b is, Lib.cut rest [47, 42] = (a, b, is) := ⟨_, _, _, rfl⟩
    have HC : Aside (Lib.cut rest [47, 42] = (a, b, is)) := hc
    clear hc
    cases is
    · go_wp2_with fail
      refine (cut_at rest ⟨#[47, 42]⟩ wr (by omega) A1.out.2.2.1 a b false HC.out).mono ?_
      rintro e w1 ⟨rfl, n1, rfl⟩
      have ea : a = rest := by have := cut_no (s := rest) (sep := [47, 42]) (by rw [HC.out]); rw [HC.out] at this; exact this
      subst ea
      have HI : Aside (Lib.IsBuilder 99 5 w.heap.size w.heap.size (Lib.byteCells acc) (wr.drewN n1) ∧ Below w.heap.size w (wr.drewN n1)) := ⟨A1.out.1, ShX.below_draws A1.out.2.1 n1⟩
      have hal : acc.length + a.length ≤ s.size := A1.out.2.2.2.2.2
      have HE : Aside (acc ++ a = stripF (s.size + 1) s.data.toList) := by rw [← A1.out.2.2.2.1, strip_no (by rw [HC.out])]; exact rfl
      clear HC A1
      go_wp2_with fail
      refine (Tryz.Builder_WriteString w.heap.size w.heap.size _ ⟨a.toArray⟩ _ HI.out.1 (by rw [Lib.byteCells_length]; simp only [Lib.size_mk]; omega) HI.out.2.size).mono ?_
      rintro e w2 ⟨rfl, hb2, hw2⟩
      have HI2 : Aside (Lib.IsBuilder 99 5 w.heap.size w.heap.size (Lib.byteCells (acc ++ a)) w2 ∧ Below w.heap.size w w2) := ⟨(by rw [Lib.byteCells_append]; exact Or.inr hb2), HI.out.2.trans hw2⟩
      clear HI hb2 hw2
      go_wp2_with fail
      refine (Tryz.Builder_String_any w.heap.size w.heap.size _ _ HI2.out.1 HI2.out.2.size).mono ?_
      rintro e w3 ⟨rfl, hw3⟩
      have HB3 : Aside (Below w.heap.size w w3) := HI2.out.2.trans hw3
      clear hw3
      go_wp2
      go_ret
      exact ⟨by show _ = Ending.returned (Value.string ⟨(stripF (s.size + 1) s.data.toList).toArray⟩); rw [← HE.out]; rfl, HB3.out⟩
    · have hlen := cut_yes (s := rest) (sep := [47, 42]) (by rw [HC.out])
      rw [HC.out] at hlen
      simp only [List.length_cons, List.length_nil] at hlen
      obtain ⟨a2, b2, is2, hc2⟩ : ∃ a2 b2 is2, Lib.cut b [42, 47] = (a2, b2, is2) := ⟨_, _, _, rfl⟩
      have HC2 : Aside (Lib.cut b [42, 47] = (a2, b2, is2)) := hc2
      have hb2l : b2.length ≤ b.length := by have := cut_rest_le b [42, 47]; rw [hc2] at this; exact this
      clear hc2
      have hal := A1.out.2.2.2.2.2
      have hfu := A1.out.2.2.2.2.1
      have he0 : (acc ++ (a ++ [32])) ++ stripF fu b2 = stripF (s.size + 1) s.data.toList := by
        rw [← A1.out.2.2.2.1, strip_yes (by rw [HC.out]), HC.out, HC2.out]
        simp
      have HE : Aside ((acc ++ (a ++ [32])) ++ stripF fu b2 = stripF (s.size + 1) s.data.toList) := he0
      clear he0
      go_wp2_with fail
      refine (cut_at rest ⟨#[47, 42]⟩ wr (by omega) A1.out.2.2.1 a b true HC.out).mono ?_
      rintro e w1 ⟨rfl, n1, rfl⟩
      have HI : Aside (Lib.IsBuilder 99 5 w.heap.size w.heap.size (Lib.byteCells acc) (wr.drewN n1) ∧ Below w.heap.size w (wr.drewN n1) ∧ Mx (wr.drewN n1)) := ⟨A1.out.1, ShX.below_draws A1.out.2.1 n1, A1.out.2.2.1⟩
      clear HC A1
      go_wp2_with fail
      refine (Tryz.Builder_WriteString w.heap.size w.heap.size _ ⟨a.toArray⟩ _ HI.out.1 (by rw [Lib.byteCells_length]; simp only [Lib.size_mk]; omega) HI.out.2.1.size).mono ?_
      rintro e w2 ⟨rfl, hb2, hw2⟩
      have HI2 : Aside (Lib.IsBuilder 99 5 w.heap.size w.heap.size (Lib.byteCells (acc ++ a)) w2 ∧ Below w.heap.size w w2) := ⟨(by rw [Lib.byteCells_append]; exact Or.inr hb2), HI.out.2.1.trans hw2⟩
      clear HI hb2 hw2
      go_wp2_with fail
      refine (Tryz.Builder_WriteByte w.heap.size w.heap.size _ 32 _ HI2.out.1 (by rw [Lib.byteCells_length]; simp; omega) HI2.out.2.size).mono ?_
      rintro e w3 ⟨rfl, hb3, hw3⟩
      have HI3 : Aside (Lib.IsBuilder 99 5 w.heap.size w.heap.size (Lib.byteCells (acc ++ (a ++ [32]))) w3 ∧ Below w.heap.size w w3) := ⟨(by rw [← List.append_assoc, Lib.byteCells_append]; exact Or.inr hb3), HI2.out.2.trans hw3⟩
      have HM3 : Aside (Mx w3) := HM.out.below HI3.out.2
      clear HI2 hb3 hw3
      go_wp2_with fail
      refine (cut_at b ⟨#[42, 47]⟩ w3 (by omega) HM3.out a2 b2 is2 HC2.out).mono ?_
      rintro e w4 ⟨rfl, n4, rfl⟩
      go_wp2
      go_roundw
      case rel => exact ⟨b2, acc ++ (a ++ [32]), fu, rfl, HI3.out.1, ShX.below_draws HI3.out.2 n4, HM3.out, HE.out, by omega, by simp; omega⟩
      case measure => simp only [Lib.size_mk]; omega
end Go.Proofs.Scn
set_option linter.unusedVariables false
set_option linter.unusedSimpArgs false
namespace Go.Proofs.Scn
open Go.RowKit Go.Lib Go.Shelf
attribute [local go_sem] Oper.semAt_some
def wordEnd (t : List UInt8) : Nat := if Lib.indexAny t [32, 9, 10, 13] < 0 then t.length else (Lib.indexAny t [32, 9, 10, 13]).toNat
def wordsF : Nat → List UInt8 → List (List UInt8)
  | 0, _ => []
  | k + 1, s => if wordEnd (Lib.trimLeftS s [32, 9, 10, 13]) = 0 then [] else (Lib.trimLeftS s [32, 9, 10, 13]).take (wordEnd (Lib.trimLeftS s [32, 9, 10, 13])) :: wordsF k ((Lib.trimLeftS s [32, 9, 10, 13]).drop (wordEnd (Lib.trimLeftS s [32, 9, 10, 13])))
def wordsV (s : ByteArray) : List ByteArray := (wordsF (s.size + 1) s.data.toList).map fun l => ⟨l.toArray⟩
theorem indexAny_le (cs : List UInt8) : ∀ l : List UInt8, Lib.indexAny l cs ≤ (l.length : Int)
  | [] => by simp [Lib.indexAny]
  | b :: l => by
    have ih := indexAny_le cs l
    unfold Lib.indexAny
    split
    · simp; omega
    · split
      · simp; omega
      · simp; omega
theorem wordEnd_le (t : List UInt8) : wordEnd t ≤ t.length := by
  unfold wordEnd
  have := indexAny_le [32, 9, 10, 13] t
  split <;> omega
theorem trimLeft_le (l cs : List UInt8) : (Lib.trimLeftS l cs).length ≤ l.length := (List.dropWhile_sublist _).length_le
def boxLen (B : Nat) (W : World) : Nat := match W.cell? ⟨B, 0, none⟩ with | some (.string s) => s.size | _ => 0
theorem boxLen_eq {B : Nat} {W : World} {t : TypeId} {s : ByteArray} (h : Boxed W B t (.string s)) : boxLen B W = s.size := by unfold boxLen; rw [h.cell]
theorem Boxed.belowW {W W' : World} {B : Nat} {t : TypeId} {v : Value} (h : Boxed W B t v) (hb : Below W.heap.size W W') : Boxed W' B t v := (hb.block B h.lt).trans h
theorem ext_drop (t : List UInt8) (m : Nat) : (⟨t.toArray⟩ : ByteArray).extract m t.length = ⟨(t.drop m).toArray⟩ := by
  rw [Lib.extract_mk, List.take_of_length_le (by simp)]
theorem ext_take (t : List UInt8) (m : Nat) : (⟨t.toArray⟩ : ByteArray).extract 0 m = ⟨(t.take m).toArray⟩ := by
  rw [Lib.extract_mk, List.drop_zero, Nat.sub_zero]
set_option maxRecDepth 100000 in
set_option maxHeartbeats 4000000 in
theorem words_iter (n : Nat) (l Bs : Nat) (J : List ByteArray → World → Prop) (s : ByteArray) (hs : s.size < 4294967281)
    (hJ : ∀ (pre : List ByteArray) (A A' : World), J pre A → Below A.heap.size A A' → J pre A') (hS : ∀ (pre : List ByteArray) (A : World) (v : Value), J pre A → J pre (A.setCell ⟨Bs, 0, none⟩ v))
    (hY : ∀ (pre : List ByteArray) (x : ByteArray × ByteArray) (W : World), J pre W → Boxed W Bs 9 (.string x.1) → x.2.size ≤ s.size → pre.length < s.size → YieldAt Fence.wide (n - 1) Tryz.prog l #[.string x.2] W fun e W' => e = .returned (.bool true) ∧ J (pre ++ [x.2]) W' ∧ Boxed W' Bs 9 (.string x.1))
    (W : World) (hBs : Boxed W Bs 9 (.string s)) (h0 : J [] W) :
    CallsIn Fence.wide n Tryz.prog 124 #[.func (.yield l) #[] #[], .pointer (some ⟨Bs, 0, none⟩)] W fun e W' => (∃ v, e = .returned v) ∧ J (wordsV s) W' := by
  refine callsIn_of_wp Tryz.func124 rfl trivial ?_ rfl
  simp only [Tryz.ntmps124, List.size_toArray, List.length_cons, List.length_nil, Nat.reduceAdd, Nat.reduceSub, Array.replicate_succ, Array.replicate_zero, List.push_toArray, List.append_toArray, List.nil_append, List.cons_append]
  have H0 : Aside (∃ (rest : List UInt8) (pre : List (List UInt8)) (fuel : Nat), Boxed W Bs 9 (.string ⟨rest.toArray⟩) ∧ J (pre.map fun l => ⟨l.toArray⟩) W ∧ pre ++ wordsF fuel rest = wordsF (s.size + 1) s.data.toList ∧ rest.length < fuel ∧ pre.length + rest.length ≤ s.size) :=
    ⟨s.data.toList, [], s.size + 1, hBs, h0, rfl, by rw [← Lib.size_eq]; omega, by rw [← Lib.size_eq]; simp⟩
  have HJ : Aside (∀ (pre : List ByteArray) (A A' : World), J pre A → Below A.heap.size A A' → J pre A') := hJ
  have HS : Aside (∀ (pre : List ByteArray) (A : World) (v : Value), J pre A → J pre (A.setCell ⟨Bs, 0, none⟩ v)) := hS
  have HY : Aside (∀ (pre : List ByteArray) (x : ByteArray × ByteArray) (W : World), J pre W → Boxed W Bs 9 (.string x.1) → x.2.size ≤ s.size → pre.length < s.size → YieldAt Fence.wide (n - 1) Tryz.prog l #[.string x.2] W fun e W' => e = .returned (.bool true) ∧ J (pre ++ [x.2]) W' ∧ Boxed W' Bs 9 (.string x.1)) := hY
  clear hJ hS hY hBs h0
  gi_wp2
  gi_loopw [] (fun wr => Aside (∃ (rest : List UInt8) (pre : List (List UInt8)) (fuel : Nat), Boxed wr Bs 9 (.string ⟨rest.toArray⟩) ∧ J (pre.map fun l => ⟨l.toArray⟩) wr ∧ pre ++ wordsF fuel rest = wordsF (s.size + 1) s.data.toList ∧ rest.length < fuel ∧ pre.length + rest.length ≤ s.size)) (fun wr => boxLen Bs wr)
  case atStart => exact H0
  case round =>
    clear H0
    obtain ⟨rest, pre, fuel, hb, hJp, hE, hf, hr⟩ := hrel
    obtain ⟨fu, rfl⟩ : ∃ fu, fuel = fu + 1 := ⟨fuel - 1, by omega⟩
    obtain ⟨t, ht⟩ : ∃ t, Lib.trimLeftS rest [32, 9, 10, 13] = t := ⟨_, rfl⟩
    obtain ⟨m, hm⟩ : ∃ m, wordEnd t = m := ⟨_, rfl⟩
    have htl := trimLeft_le rest [32, 9, 10, 13]
    have hml := wordEnd_le t
    rw [ht] at htl
    rw [hm] at hml
    have T1 : ∀ w, Calls Tryz.prog 125 #[.string ⟨rest.toArray⟩, .string ⟨#[32, 9, 10, 13]⟩] w fun e w' => e = .returned (.string ⟨t.toArray⟩) ∧ Below w.heap.size w w' := fun w => by
      have c := Any.strings_TrimLeft_laid Tryz.lays161 (by kernel_rfl) ⟨rest.toArray⟩ ⟨#[32, 9, 10, 13]⟩ w (by decide) (ascii_of_all (by decide))
      rw [show (⟨rest.toArray⟩ : ByteArray).data.toList = rest by simp] at c
      rw [show Lib.trimLeftS rest (⟨#[32, 9, 10, 13]⟩ : ByteArray).data.toList = t from ht] at c
      exact c
    have hcell := hb.cell
    have hfro := hb.frozen
    have HB : Aside (Boxed wr Bs 9 (.string ⟨rest.toArray⟩)) := hb
    have HJP : Aside (J (pre.map fun l => ⟨l.toArray⟩) wr) := hJp
    have HE : Aside (pre ++ wordsF (fu + 1) rest = wordsF (s.size + 1) s.data.toList) := hE
    have HT : Aside (Lib.trimLeftS rest [32, 9, 10, 13] = t ∧ wordEnd t = m) := ⟨ht, hm⟩
    clear hb hJp hE ht hm
    gi_wp2_with fail
    refine ⟨trivial, (fun h => absurd h (by decide)), (callsIn_wide.2 (T1 _)).mono ?_⟩
    rintro e w1 ⟨rfl, hb1⟩
    have B1 : Aside (Boxed w1 Bs 9 (.string ⟨rest.toArray⟩) ∧ J (pre.map fun l => ⟨l.toArray⟩) w1) := ⟨Boxed.belowW HB.out hb1, HJ.out _ _ _ HJP.out hb1⟩
    have hcell1 := B1.out.1.cell
    have hfro1 := B1.out.1.frozen
    clear hcell hfro hb1 T1
    gi_wp2_with fail
    have B2 : Aside (Boxed (w1.setCell ⟨Bs, 0, none⟩ (.string ⟨t.toArray⟩)) Bs 9 (.string ⟨t.toArray⟩) ∧ J (pre.map fun l => ⟨l.toArray⟩) (w1.setCell ⟨Bs, 0, none⟩ (.string ⟨t.toArray⟩))) := ⟨Boxed.set _ B1.out.1, HS.out _ _ _ B1.out.2⟩
    clear hcell1 hfro1 B1
    have hmr : m ≤ rest.length := by omega
    have I0 : ∀ w, Calls Tryz.prog 101 #[.string ⟨t.toArray⟩, .string ⟨#[32, 9, 10, 13]⟩] w fun e w' => e = .returned (.int .i64 (Lib.indexAny t [32, 9, 10, 13])) ∧ Below w.heap.size w w' := fun w => by
      have c := ShX.xIndexAny Tryz.lays153 (by kernel_rfl) ⟨t.toArray⟩ ⟨#[32, 9, 10, 13]⟩ w (by simp only [Lib.size_mk]; omega) (by decide) (by decide) (ascii_of_all (by decide))
      rw [show (⟨t.toArray⟩ : ByteArray).data.toList = t by simp] at c
      exact c
    have hia : Lib.indexAny t [32, 9, 10, 13] = -1 ∧ t.length = m ∨ Lib.indexAny t [32, 9, 10, 13] = (m : Int) ∧ m ≤ t.length := by
      have h1 := HT.out.2
      unfold wordEnd at h1
      have h2 := Lib.indexAny_ge [32, 9, 10, 13] t
      split at h1
      · exact .inl ⟨by omega, h1⟩
      · exact .inr ⟨by omega, hml⟩
    rcases hia with ⟨hi1, hlen⟩ | ⟨hi1, hlen⟩
    all_goals
      rw [hi1] at I0
      clear hi1
      refine ⟨trivial, (fun h => absurd h (by decide)), (callsIn_wide.2 (I0 _)).mono ?_⟩
      rintro e w2 ⟨rfl, hb2⟩
      have B3 : Aside (Boxed w2 Bs 9 (.string ⟨t.toArray⟩) ∧ J (pre.map fun l => ⟨l.toArray⟩) w2) := ⟨Boxed.belowW B2.out.1 hb2, HJ.out _ _ _ B2.out.2 hb2⟩
      have hcell3 := B3.out.1.cell
      have hfro3 := B3.out.1.frozen
      clear hb2 I0 B2
      by_cases hm0 : m = 0
      · have hmz : ((m : Int) == 0) = true := by simp [hm0]
        have HE2 : Aside (pre = wordsF (s.size + 1) s.data.toList) := by
          have h := HE.out
          rw [wordsF, HT.out.1, HT.out.2, if_pos hm0, List.append_nil] at h
          exact h
        clear hm0
        gi_wp2
        refine ⟨(fun _ h => (by cases h)), ?_⟩
        gi_wp2
        refine bodyPost_ret (results_none rfl _ _ _) rfl ?_
        exact ⟨⟨_, rfl⟩, by rw [wordsV, ← HE2.out]; exact B3.out.2⟩
      · have hmz : ((m : Int) == 0) = false := by simp [hm0]
        have hmt : (m : Int) ≤ (t.length : Int) := by omega
        obtain ⟨fn, tmps, assign, body, hy, hR⟩ := HY.out (pre.map fun l => ⟨l.toArray⟩) (⟨t.toArray⟩, (⟨t.toArray⟩ : ByteArray).extract 0 m) w2 B3.out.2 B3.out.1 (by simp only [ByteArray.size_extract, Lib.size_mk]; omega) (by rw [List.length_map]; omega)
        dsimp only at hy
        have hmp : 1 ≤ m := by omega
        have HE2 : Aside ((pre ++ [t.take m]) ++ wordsF fu (t.drop m) = wordsF (s.size + 1) s.data.toList) := by
          have h := HE.out
          rw [wordsF, HT.out.1, HT.out.2, if_neg hm0] at h
          rw [List.append_assoc]
          exact h
        clear hm0
        gi_wp2
        refine ⟨(fun h => absurd h (by decide)), hR.mono ?_⟩
        rintro e W3 ⟨rfl, hJ4, hb4⟩
        have B4 : Aside (Boxed W3 Bs 9 (.string ⟨t.toArray⟩) ∧ J ((pre.map fun l => ⟨l.toArray⟩) ++ [(⟨t.toArray⟩ : ByteArray).extract 0 m]) W3) := ⟨hb4, hJ4⟩
        have hcell4 := hb4.cell
        have hfro4 := hb4.frozen
        clear hb4 hJ4 hcell3 hfro3 B3 hy hR
        gi_wp2
        have ev1 := ext_drop t m
        have ev0 : t.length = m → ByteArray.empty = (⟨(t.drop m).toArray⟩ : ByteArray) := fun h => by rw [List.drop_eq_nil_of_le (by omega)]; rfl
        first | rw [ev1] | rw [ev0 hlen]
        have BX := Boxed.set (.string ⟨(t.drop m).toArray⟩) B4.out.1
        refine ⟨⟨t.drop m, pre ++ [t.take m], fu, BX, ?_, HE2.out, by rw [List.length_drop]; omega, by rw [List.length_drop, List.length_append, List.length_singleton]; omega⟩, ?_⟩
        · have h := HS.out _ _ (.string ⟨(t.drop m).toArray⟩) B4.out.2
          rw [ext_take] at h
          simpa using h
        · rw [boxLen_eq BX, boxLen_eq HB.out, Lib.size_mk, Lib.size_mk, List.length_drop]
          omega
end Go.Proofs.Scn
set_option linter.unusedVariables false
set_option linter.unusedSimpArgs false
namespace Go.Proofs.Scn
open Go.RowKit Go.Lib Go.Shelf Go.Proofs.YtolfpgccebdlpaaGreatDoorW.PrintWords
attribute [local go_sem] Oper.semAt_some
theorem words_fn (s : ByteArray) (w : World) :
    Calls Tryz.prog 84 #[.string s] w fun e w' => e = .returned (.func (.func 124) #[] #[.pointer (some ⟨w.heap.size, 0, none⟩)]) ∧ w' = w.alloc (.cells #[.string s] 9) := by
  go_enter Tryz.func84, Tryz.ntmps84
  go_wp2
  go_ret
  exact ⟨rfl, rfl⟩
def WJ (n0 : Nat) (w : World) (rec : Loop) (pre : List ByteArray) (W : World) : Prop :=
  (∃ v, Boxed W n0 76 v ∧ W.ownsRow (n0 + 2) 9 1 v pre.length (pre.map Value.string)) ∧ Below n0 w W ∧ W.heap[n0 + 3]? = some (.loop rec) ∧ W.heap[n0 + 2]? = some (.deferred (some []))
theorem WJ.below {n0 : Nat} {w : World} {rec : Loop} {pre : List ByteArray} {A A' : World} (h : WJ n0 w rec pre A) (hb : Below A.heap.size A A') : WJ n0 w rec pre A' := by
  obtain ⟨⟨v, hv, hr⟩, hB, hl, hd⟩ := h
  have hsz : n0 ≤ A.heap.size := Nat.le_of_lt hv.lt
  refine ⟨⟨v, Boxed.belowW hv hb, hr.kept (grown_of_below hb none) ?_⟩, hB.trans (hb.mono hsz), (hb.block _ (Array.getElem?_eq_some_iff.1 hl).1).trans hl, (hb.block _ (Array.getElem?_eq_some_iff.1 hd).1).trans hd⟩
  rcases hr.2 with ⟨rfl, _⟩ | ⟨g, cap, cur, rfl, hg, _⟩
  · exact .inl rfl
  · exact .inr (by simp [Value.ownBlock])
theorem WJ.set {n0 : Nat} {w : World} {rec : Loop} {pre : List ByteArray} {A : World} (h : WJ n0 w rec pre A) (u : Value) : WJ n0 w rec pre (A.setCell ⟨n0 + 1, 0, none⟩ u) := by
  obtain ⟨⟨v, hv, hr⟩, hB, hl, hd⟩ := h
  refine ⟨⟨v, hv.other (by omega) u, hr.kept (grownBy_setCell' A (n0 + 1) u) ?_⟩, hB.setCell (p := ⟨n0 + 1, 0, none⟩) (by simp) u, (Below.heap_setCell _ _ _ _ (by simp)).trans hl, (Below.heap_setCell _ _ _ _ (by simp)).trans hd⟩
  rcases hr.2 with ⟨rfl, _⟩ | ⟨g, cap, cur, rfl, hg, _⟩
  · exact .inl rfl
  · exact .inr (by simp [Value.ownBlock]; omega)
theorem owns_le {W : World} {b b' : Nat} {e size k : Nat} {v : Value} {xs : List Value} (h : W.ownsRow b e size v k xs) (hb : b' ≤ b) : W.ownsRow b' e size v k xs :=
  ⟨h.1, h.2.imp id (fun ⟨g, cap, cur, h1, h2, h3⟩ => ⟨g, cap, cur, h1, Nat.le_trans hb h2, h3⟩)⟩
theorem owns_ne {W : World} {b : Nat} {e size k : Nat} {v : Value} {xs : List Value} (h : W.ownsRow b e size v k xs) {j : Nat} (hj : j < b) : some j ≠ v.ownBlock := by
  rcases h.2 with ⟨rfl, _⟩ | ⟨g, cap, cur, rfl, hg, _⟩
  · simp [Value.ownBlock]
  · simp [Value.ownBlock]; omega
theorem owns_set {W : World} {b : Nat} {e size k : Nat} {v : Value} {xs : List Value} (h : W.ownsRow b e size v k xs) {j : Nat} (hj : j < b) (u : Value) : (W.setCell ⟨j, 0, none⟩ u).ownsRow b e size v k xs :=
  h.kept (grownBy_setCell' W j u) (.inr (owns_ne h hj).symm)
theorem Tryz.infoS : (Tryz.prog.info? 9).map (fun i => (i.zero, i.size, i.bytes)) = some (some (.string ⟨#[]⟩), 1, 16) := by kernel_rfl
theorem range_outer {P : Program} {n : Nat} {g : Operand} {ps : Array Tmp} {assign body : Code} {Q : Exit → Act → World → Prop} {a : Act} {w : World} {gf : Nat} {lb : Array Value}
    (hn : 1 ≤ n) (hg : a.eval g = .func (.func gf) #[] lb) (eg : ∀ args w, (callFunc gf args).run P w = .ok (.enter gf args) w)
    (h : ∀ rec : Loop, rec.state = .ready → rec.pending = none → rec.tmps = a.tmps → rec.params = ps → rec.assign = assign → rec.body = body →
      CallsIn Fence.wide (n - 1) P gf (#[.func (.yield (w.heap.size + 1)) #[] #[]] ++ lb) ((w.alloc (.deferred (some []))).alloc (.loop rec)) (rangePost Fence.wide n P (w.heap.size + 1) Q { a with defers := [{ target := .collected w.heap.size, args := #[] }] ++ a.defers })) :
    (Code.rangeFunc g ps assign body).wpIn Fence.wide n P Q a w := by
  refine wpIn_rangeFunc ?_
  intro fn hfn
  obtain ⟨rec, hrec⟩ : ∃ rec : Loop, rec = { state := .ready, pending := none, fn, tmps := a.tmps, params := ps, assign, body, defers := w.heap.size } := ⟨_, rfl⟩
  have he : (Instr.enterLoop fn a.tmps ps assign body Fence.wide.round).run P w = .ok (w.heap.size + 1, [{ target := .collected w.heap.size, args := #[] }]) ((w.alloc (.deferred (some []))).alloc (.loop rec)) := by
    rw [hrec]
    exact run_enterLoop_outer _ _ _ _ _
  have hh := h rec (by rw [hrec]) (by rw [hrec]) (by rw [hrec]) (by rw [hrec]) (by rw [hrec]) (by rw [hrec])
  obtain ⟨W1, hW1⟩ : ∃ W1, (w.alloc (.deferred (some []))).alloc (.loop rec) = W1 := ⟨_, rfl⟩
  rw [hW1] at he hh
  refine ⟨w.heap.size + 1, [{ target := .collected w.heap.size, args := #[] }], W1, { target := .fn (.func gf) lb, args := #[.func (.yield (w.heap.size + 1)) #[] #[]] }, W1, gf, #[.func (.yield (w.heap.size + 1)) #[] #[]] ++ lb, W1, ?_, ?_, ?_, ?_, ?_, ?_⟩
  · exact he
  · simp only [resolve, hg]
    simp [go_sem]
  · intro _ _
    exact True.intro
  · simp [invoke, go_sem, eg]
  · exact fun _ => hn
  · exact hh
set_option maxRecDepth 100000 in
set_option maxHeartbeats 4000000 in
theorem words_any (s : ByteArray) (w : World) (hs : s.size < 4294967281) :
    Calls Tryz.prog 39 #[.string s] w fun e w' => ∃ v0_ : Value, e = .returned v0_ ∧ Kd.R Kd.string 9 w' w.heap.size (fun _ => True) v0_ (wordsV s) ∧ Below w.heap.size w w' := by
  refine (callsIn_wide (n := 6)).1 ?_
  refine callsIn_of_wp_marks Tryz.func39 rfl trivial ?_ rfl
  simp only [Tryz.ntmps39, List.size_toArray, List.length_cons, List.length_nil, Nat.reduceAdd, Nat.reduceSub, Array.replicate_succ, Array.replicate_zero, List.push_toArray, List.append_toArray, List.nil_append, List.cons_append]
  gi_wp2_with fail
  refine ⟨trivial, (callsIn_wide.2 (words_fn _ _)).mono ?_⟩
  rintro e w' ⟨rfl, rfl⟩
  gi_wp2_with fail
  refine range_outer (by decide) (gf := 124) (lb := #[.pointer (some ⟨w.heap.size + 1, 0, none⟩)]) rfl (enters_of Tryz.func124 (by kernel_rfl) rfl) ?_
  intro rec h1 h2 h3 h4 h5 h6
  have h0 : WJ w.heap.size w rec [] ((((w.alloc (.cells #[.slice none 0 0] 76)).alloc (.cells #[.string s] 9)).alloc (.deferred (some []))).alloc (.loop rec)) := by
    refine ⟨⟨.slice none 0 0, ?_, World.ownsRow_nil _ _ _ _⟩, ?_, ?_, ?_⟩
    · exact (((Boxed.new w 76 (.slice none 0 0)).alloc _).alloc _).alloc _
    · exact (((((Below.refl _ w).alloc (Nat.le_refl _) _).alloc (by simp) _).alloc (by simp; omega) _).alloc (by simp; omega) _)
    · have := World.alloc_heap_new (((w.alloc (.cells #[.slice none 0 0] 76)).alloc (.cells #[.string s] 9)).alloc (.deferred (some []))) (.loop rec)
      simpa only [World.size_alloc] using this
    · have := World.alloc_heap_new ((w.alloc (.cells #[.slice none 0 0] 76)).alloc (.cells #[.string s] 9)) (.deferred (some []))
      refine (Below.heap_alloc _ _ _ (by simp)).trans ?_
      simpa only [World.size_alloc] using this
  have hBs : Boxed ((((w.alloc (.cells #[.slice none 0 0] 76)).alloc (.cells #[.string s] 9)).alloc (.deferred (some []))).alloc (.loop rec)) (w.heap.size + 1) 9 (.string s) := by
    have := Boxed.new (w.alloc (.cells #[.slice none 0 0] 76)) 9 (.string s)
    simp only [World.size_alloc] at this
    exact (this.alloc _).alloc _
  refine (words_iter (6 - 1) _ (w.heap.size + 1) (WJ w.heap.size w rec) s hs (fun pre A A' h hb => h.below hb) (fun pre A v h => h.set v) ?_ _ hBs h0).mono ?_
  · intro pre x W hW hbx hxs hpl
    obtain ⟨⟨v, hv, hr⟩, hB, hl, hd⟩ := hW
    simp only [World.size_alloc]
    refine ⟨rec.fn, _, rec.assign, rec.body, run_yield (r := rec) hl (by rw [h4]; rfl), roundIn_of_wpIn trivial ?_⟩
    rw [h3, h4, h5, h6]
    gi_wp2
    refine ⟨_, run_beginRound hl h1, ?_⟩
    obtain ⟨X, hX⟩ : ∃ X, W.putObj (w.heap.size + 3) (.loop { rec with state := .busy }) = X := ⟨_, rfl⟩
    have hgX : W.grownBy X (some (w.heap.size + 3)) := by rw [← hX]; exact grownBy_putObj' _ _ _
    have hlt : w.heap.size + 3 < W.heap.size := (Array.getElem?_eq_some_iff.1 hl).1
    have hlX : X.heap[w.heap.size + 3]? = some (.loop { rec with state := .busy }) := by rw [← hX]; exact World.putObj_heap_same hlt
    have hdX : X.heap[w.heap.size + 2]? = some (.deferred (some [])) := by rw [← hX]; exact (World.putObj_heap_other (by omega)).trans hd
    have hvX : Boxed X w.heap.size 76 v := hv.kept hgX (by simp)
    have hbX : Boxed X (w.heap.size + 1) 9 (.string x.1) := hbx.kept hgX (by simp)
    have hrX : X.ownsRow (w.heap.size + 2) 9 1 v pre.length (pre.map Value.string) := by rw [← hX]; exact ownsRow_putObj hr _ hl rfl
    have hBX : Below w.heap.size w X := hB.grown hgX hB.size (fun k e => by cases e; omega)
    have hXs : w.heap.size + 3 < X.heap.size := (Array.getElem?_eq_some_iff.1 hlX).1
    have gX : (W.putObj (w.heap.size + 3) (.loop { rec with state := .busy })) = X := hX
    show Code.wpIn _ _ _ _ _ _ (W.putObj (w.heap.size + 3) (.loop { rec with state := .busy }))
    rw [gX]
    have HH : Aside (X.heap[w.heap.size + 3]? = some (.loop { rec with state := .busy }) ∧ X.heap[w.heap.size + 2]? = some (.deferred (some [])) ∧ Boxed X w.heap.size 76 v ∧ Boxed X (w.heap.size + 1) 9 (.string x.1) ∧ X.ownsRow (w.heap.size + 2) 9 1 v pre.length (pre.map Value.string) ∧ Below w.heap.size w X) := ⟨hlX, hdX, hvX, hbX, hrX, hBX⟩
    have hcX := hvX.cell
    have hfX := hvX.frozen
    clear hgX hlt hlX hdX hvX hbX hBX gX hX hv hr hB hl hd hbx h3 h4 h5 h6 hBs h0
    obtain ⟨i0, hi, hz0, hz1, hz2⟩ := info_parts Tryz.infoS
    gi_wp2_with (gi_at_builtin; refine wpListIn_append_own _ rfl _ _ 76 rfl (w.heap.size + 2) 9 i0 (.string ⟨#[]⟩) 1 16 Tryz.underlying76 hi hz0 hz1 hz2 rfl (by decide) _ _ _ rfl (hrX.alloc _) ⟨X.heap.size, 0, none⟩ 1 1 [.string x.2] rfl rfl (cell_one_new _ _ _) (by simp [Value.oneCell']) (by unfold maxLen; omega) (by omega) (by simp; omega) ?_; intro v' w1 hown' hgrow _; obtain ⟨g', cap', rfl⟩ := ownsRow_succ hown'; obtain ⟨hv1, hv2, hr2, hk2, hb2⟩ := HH.out.2.2.1.appended (by decide) (owns_le HH.out.2.2.2.2.1 (by omega)) (by omega) (Nat.le_refl _) (owns_le (b' := w.heap.size) hown' (by omega)) hgrow; have hc1 := hv1.cell; have hf1 := hv1.frozen)
    have hl5 := hk2.same _ _ HH.out.1 rfl
    have hd5 := hk2.same _ _ HH.out.2.1 rfl
    have erec : ({ ({ rec with state := .busy } : Loop) with state := (if (none : Option Code).isNone then .ready else .done), pending := none } : Loop) = rec := by
      cases rec
      simp at h1 h2
      subst h1 h2
      rfl
    have hend := run_endRound (P := Tryz.prog) none hl5
    rw [erec] at hend
    refine ⟨_, _, hend, rfl, ⟨⟨_, hv2.kept (grownBy_putObj' _ _ _) (by simp), ?_⟩, ?_, ?_, ?_⟩, ?_⟩
    · rw [List.length_append, List.map_append]
      exact ownsRow_putObj (owns_set hown' (by omega) _) _ hl5 rfl
    · exact (HH.out.2.2.2.2.2.trans hb2).grown (grownBy_putObj' _ _ _) (HH.out.2.2.2.2.2.trans hb2).size (fun k e => by cases e; omega)
    · exact World.putObj_heap_same (Array.getElem?_eq_some_iff.1 hl5).1
    · exact (World.putObj_heap_other (by omega)).trans hd5
    · exact (((HH.out.2.2.2.1.alloc _).kept hgrow (owns_ne hrX (by omega))).other (by omega) _).kept (grownBy_putObj' _ _ _) (by simp)
  · rintro e W' ⟨⟨v, rfl⟩, ⟨u, hu, hr⟩, hB, hl, hd⟩
    simp only [World.size_alloc]
    refine ⟨none, _, by have := run_endLoop (P := Tryz.prog) hl (by rw [h1]; simp); rw [h2] at this; exact this, ?_⟩
    obtain ⟨Y, hY⟩ : ∃ Y, W'.putObj (w.heap.size + 3) (.loop { rec with state := .exhausted, pending := none }) = Y := ⟨_, rfl⟩
    have hgY : W'.grownBy Y (some (w.heap.size + 3)) := by rw [← hY]; exact grownBy_putObj' _ _ _
    have huY : Boxed Y w.heap.size 76 u := hu.kept hgY (by simp)
    have hrY : Y.ownsRow (w.heap.size + 2) 9 1 u (wordsV s).length ((wordsV s).map Value.string) := by rw [← hY]; exact ownsRow_putObj hr _ hl rfl
    have hBY : Below w.heap.size w Y := hB.grown hgY hB.size (fun k e => by cases e; omega)
    have hdY : Y.heap[w.heap.size + 2]? = some (.deferred (some [])) := by rw [← hY]; exact (World.putObj_heap_other (by omega)).trans hd
    have hH : Aside (Y.ownsRow (w.heap.size + 2) 9 1 u (wordsV s).length ((wordsV s).map Value.string) ∧ Below w.heap.size w Y) := ⟨hrY, hBY⟩
    have hcY := huY.cell
    have hfY := huY.frozen
    show Exit.inBlock 0 _ Exit.normal _ (W'.putObj (w.heap.size + 3) (.loop { rec with state := .exhausted, pending := none }))
    rw [hY]
    clear hgY hrY hBY hY hu hr hB hl hd h3 h4 h5 h6 hBs h0
    gi_wp2
    refine ⟨by simp, .inl ⟨_, _, rfl, run_takeDeferred hdY, ?_⟩⟩
    have hP := ownsRow_putObj (o' := .deferred none) hH.out.1 hdY rfl
    refine ⟨_, results_tmp rfl _ _ _, ?_⟩
    refine ⟨u, rfl, ⟨fun _ _ => True.intro, _, owns_le hP (by omega), Kd.reps_scalar _⟩, hH.out.2.grown (grownBy_putObj' _ _ _) hH.out.2.size (fun k e => by cases e; omega)⟩
end Go.Proofs.Scn
