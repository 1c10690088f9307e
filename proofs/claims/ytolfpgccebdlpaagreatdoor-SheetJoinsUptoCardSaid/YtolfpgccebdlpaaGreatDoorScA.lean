/- scan.Lower and a row of texts: contracts of functions of the given program, proved by walking their text; no condition beside those that each theorem states. -/
import Derived.Test.YtolfpgccebdlpaaGreatDoorRgn
import Derived.Test.YtolfpgccebdlpaaGreatDoorWWords
import Derived.Laws.BytesArg
import Derived.Lib.ConvBytes
import Derived.Deep.LoopGhost
import Derived.IntWalk
import Derived.Lib.Hide
set_option linter.unusedVariables false
set_option linter.unusedSimpArgs false
namespace Go.Proofs.Scn
open Go.RowKit Go.Lib Go.Proofs.YtolfpgccebdlpaaGreatDoorW.PrintWords
/-! ### Lower -/
def lowB (c : UInt8) : UInt8 := if 65 ≤ c.toNat ∧ c.toNat ≤ 90 then c + 32 else c
def lowV (s : ByteArray) : ByteArray := ⟨(s.data.toList.map lowB).toArray⟩
/-- the bytes when k of them are done -/
def lowAt (l : List UInt8) (k j : Nat) : Int := ((if j < k then lowB (l.getD j 0) else l.getD j 0).toNat : Int)
theorem lowAt_next {l : List UInt8} {k j : Nat} (h : j ≠ k) : lowAt l (k + 1) j = lowAt l k j := by
  unfold lowAt
  by_cases h1 : j < k
  · rw [if_pos h1, if_pos (by omega)]
  · rw [if_neg h1, if_neg (by omega)]
theorem lowAt_same (l : List UInt8) (k : Nat) : lowAt l (k + 1) k = ((lowB (l.getD k 0)).toNat : Int) := by
  unfold lowAt
  rw [if_pos (by omega)]
theorem lowB_yes {c : UInt8} (h1 : 65 ≤ c.toNat) (h2 : c.toNat ≤ 90) : ((lowB c).toNat : Int) = (c.toNat : Int) + 32 := by
  unfold lowB
  rw [if_pos ⟨h1, h2⟩]
  have : (c + 32).toNat = (c.toNat + 32) % 256 := by simp
  omega
theorem lowB_no {c : UInt8} (h : ¬ (65 ≤ c.toNat ∧ c.toNat ≤ 90)) : lowB c = c := by unfold lowB; rw [if_neg h]
def LowAt (s : ByteArray) (B : Nat) (w wr : World) (k : Nat) : Prop := (∀ j, j < s.size → wr.cell? ⟨B, j, none⟩ = some (.int .u8 (lowAt s.data.toList k j)) ∧ wr.frozen? ⟨B, j, none⟩ = false) ∧ Below w.heap.size w wr
theorem LowAt.start (s : ByteArray) (w : World) (e : TypeId) : LowAt s w.heap.size w (Lib.bytesWorld w e s) 0 := by
  refine ⟨fun j hj => ⟨?_, ?_⟩, ?_⟩
  · rw [Lib.bytesWorld_cell w e s j hj]
    unfold lowAt
    rw [if_neg (by omega)]
  · simp only [World.frozen?, Lib.bytesWorld_at_new]
    have : (Lib.bytesCells w e s).size ≥ s.size := by
      simp only [Lib.bytesCells, Array.size_append, Array.size_map]
      have : s.data.size = s.size := rfl
      omega
    simp
    omega
  · refine ⟨rfl, rfl, rfl, by rw [Lib.bytesWorld_size]; omega, fun k hk => Lib.bytesWorld_at_old w e s k hk⟩
theorem LowAt.keep {s : ByteArray} {B k : Nat} {w wr : World} (h : LowAt s B w wr k) (hk : k < s.size) (hn : ¬ (65 ≤ (s.data.toList.getD k 0).toNat ∧ (s.data.toList.getD k 0).toNat ≤ 90)) : LowAt s B w wr (k + 1) := by
  refine ⟨fun j hj => ⟨?_, (h.1 j hj).2⟩, h.2⟩
  rw [(h.1 j hj).1]
  by_cases e : j = k
  · subst e
    rw [lowAt_same, lowB_no hn]
    unfold lowAt
    rw [if_neg (by omega)]
  · rw [lowAt_next e]
theorem LowAt.put {s : ByteArray} {B k : Nat} {w wr : World} (h : LowAt s B w wr k) (hB : w.heap.size ≤ B) (hk : k < s.size) {v : Int} (hv : v = ((lowB (s.data.toList.getD k 0)).toNat : Int)) : LowAt s B w (wr.setCell ⟨B, k, none⟩ (.int .u8 v)) (k + 1) := by
  refine ⟨fun j hj => ⟨?_, by rw [World.frozen?_setCell]; exact (h.1 j hj).2⟩, h.2.setCell (p := ⟨B, k, none⟩) hB _⟩
  by_cases e : j = k
  · subst e
    rw [lowAt_same, ← hv]
    exact World.cell?_setCell_same' _ _ _ (by rw [(h.1 j hj).1]; rfl)
  · rw [lowAt_next e, ← (h.1 j hj).1]
    exact World.cell?_setCell_other _ _ _ _ (by intro q; injection q with _ q; exact e q.symm)
theorem lowV_nums (s : ByteArray) : strOfNums ((List.range s.size).map (lowAt s.data.toList s.size)) = lowV s := by
  unfold strOfNums lowV
  congr 2
  refine List.ext_getElem? fun j => ?_
  rw [List.map_map, List.getElem?_map, List.getElem?_map]
  by_cases h : j < s.size
  · have h' : j < s.data.toList.length := by rw [← Lib.size_eq]; exact h
    rw [List.getElem?_range h, List.getElem?_eq_getElem h']
    have e : s.data.toList.getD j 0 = s.data.toList[j] := by rw [List.getD_eq_getElem?_getD, List.getElem?_eq_getElem h']; rfl
    simp only [Option.map_some, Function.comp_apply, lowAt]
    rw [if_pos h, e]
    simp
  · have h' : ¬ j < s.data.toList.length := by rw [← Lib.size_eq]; exact h
    rw [List.getElem?_eq_none (by simpa using h), List.getElem?_eq_none (by omega)]
    rfl
set_option maxHeartbeats 2000000 in
set_option maxRecDepth 100000 in
theorem lower_any (s : ByteArray) (w : World) (hs : s.size < 4294967281) :
    Calls Tryz.prog 41 #[.string s] w fun e w' => e = .returned (.string (lowV s)) ∧ Below w.heap.size w w' := by
  have h0 := LowAt.start s w 5
  have hconv := Lib.run_convert_string_bytes (P := Tryz.prog) w 9 97 5 s Tryz.underlying9 Tryz.underlying97 Tryz.underlying5
  obtain ⟨W1, hW1⟩ : ∃ W1, Lib.bytesWorld w 5 s = W1 := ⟨_, rfl⟩
  obtain ⟨cap, hcap⟩ : ∃ cap, grownCap w s.size 0 5 = cap := ⟨_, rfl⟩
  rw [hW1] at h0 hconv
  rw [hcap] at hconv
  have H0 : Aside (LowAt s w.heap.size w W1 0) := h0
  clear hW1 hcap h0
  go_enter Tryz.func41, Tryz.ntmps41
  go_wp2
  clear hconv
  obtain ⟨n, hn⟩ : ∃ n, n = s.size := ⟨_, rfl⟩
  go_loopw [10, 11, 12, 13, 14, 4, 5, 15, 16, 17, 18, 19, 20, 21, 22, 23, 24, 25, 26, 27] (fun i _ _ _ _ _ _ _ _ _ _ _ _ _ _ _ _ _ _ _ wr => ∃ k : Nat, k ≤ s.size ∧ i = .int .i64 k ∧ Aside (LowAt s w.heap.size w wr k)) (fun i _ _ _ _ _ _ _ _ _ _ _ _ _ _ _ _ _ _ _ _ => s.size - (RowKit.intOf i).toNat)
  case atStart => exact ⟨0, Nat.zero_le _, rfl, H0.out⟩
  case round =>
    clear H0
    obtain ⟨k, hk, rfl, A1⟩ := hrel
    by_cases hlt : k < s.size
    · have hltz : (k : Int) < (s.size : Int) := by omega
      obtain ⟨c, hc⟩ : ∃ c, s.data.toList.getD k 0 = c := ⟨_, rfl⟩
      have hcell : wr.cell? ⟨w.heap.size, k, none⟩ = some (.int .u8 (c.toNat : Int)) := by
        rw [(A1.out.1 k hlt).1]
        unfold lowAt
        rw [if_neg (by omega), hc]
      have hfz := (A1.out.1 k hlt).2
      have HC : Aside (s.data.toList.getD k 0 = c) := hc
      have hc256 : c.toNat < 256 := c.toNat_lt
      clear hc
      by_cases h1 : 65 ≤ c.toNat
      · by_cases h2 : c.toNat ≤ 90
        · have g1 : decide ((65 : Int) ≤ (c.toNat : Int)) = true := decide_eq_true (by omega)
          have g2 : decide ((c.toNat : Int) ≤ (90 : Int)) = true := decide_eq_true (by omega)
          go_wp2
          refine ⟨⟨k + 1, by omega, by go_num, A1.out.put (Nat.le_refl _) hlt ?_⟩, by simp [RowKit.intOf]; omega⟩
          rw [HC.out, lowB_yes h1 h2]
          omega
        · have g1 : decide ((65 : Int) ≤ (c.toNat : Int)) = true := decide_eq_true (by omega)
          have g2 : decide ((c.toNat : Int) ≤ (90 : Int)) = false := decide_eq_false (by omega)
          go_wp2
          exact ⟨⟨k + 1, by omega, by go_num, A1.out.keep hlt (by rw [HC.out]; omega)⟩, by simp [RowKit.intOf]; omega⟩
      · have g1 : decide ((65 : Int) ≤ (c.toNat : Int)) = false := decide_eq_false (by omega)
        go_wp2
        exact ⟨⟨k + 1, by omega, by go_num, A1.out.keep hlt (by rw [HC.out]; omega)⟩, by simp [RowKit.intOf]; omega⟩
    · obtain rfl : k = s.size := by omega
      have hltz : ¬ ((s.size : Int) < (s.size : Int)) := by omega
      have hcv := run_convert_bytes_arg (P := Tryz.prog) wr 97 5 Tryz.underlying97 Tryz.underlying5 w.heap.size 0 s.size cap ((List.range s.size).map (lowAt s.data.toList s.size)) (by simp) (fun i hi => by rw [Nat.zero_add, (A1.out.1 i hi).1]; simp [List.getD, hi]) 9 Tryz.underlying9
      rw [lowV_nums] at hcv
      go_wp2
      go_ret
      exact ⟨rfl, A1.out.2⟩
end Go.Proofs.Scn
