/- scan.Split: contract of a function of the given program, proved by walking its text; no condition beside those that each theorem states. -/
import Derived.Test.YtolfpgccebdlpaaGreatDoorScA
import Derived.Test.YtolfpgccebdlpaaGreatDoorWLast
set_option linter.unusedVariables false
set_option linter.unusedSimpArgs false
namespace Go.Proofs.Scn
open Go.RowKit Go.Lib Go.Proofs.YtolfpgccebdlpaaGreatDoorW.PrintWords
def trimV (s : ByteArray) : ByteArray := ⟨(Lib.trimS s.data.toList [32, 9, 10, 13]).toArray⟩
def splitV (s : ByteArray) (c : UInt8) : List ByteArray := (Lib.splitB ⟨#[c]⟩ 0 (Lib.countB s ⟨#[c]⟩) s).map trimV
theorem trim_any (s : ByteArray) (w : World) (hs : s.size < 4294967281) :
    Calls Tryz.prog 91 #[.string s] w fun e w' => e = .returned (.string (trimV s)) ∧ Below w.heap.size w w' := by
  have hcon : ∀ w, Calls Tryz.prog 132 #[.string s, .string ⟨#[32, 9, 10, 13]⟩] w fun e w' => e = .returned (.string (trimV s)) ∧ Below w.heap.size w w' := fun w => Any.strings_Trim_laid Tryz.lays160 (by kernel_rfl) s ⟨#[32, 9, 10, 13]⟩ w (by omega) (by decide) (ascii_of_all (by decide))
  generalize trimV s = r at hcon ⊢
  go_enter Tryz.func91, Tryz.ntmps91
  go_wp2_with (go_at_call 132; refine (hcon _).mono ?_; rintro e w' ⟨rfl, hB⟩)
  go_ret
  exact ⟨rfl, hB⟩
def spL (l : List ByteArray) (k : Nat) : List ByteArray := (l.take k).map trimV ++ l.drop k
theorem spL_at (l : List ByteArray) (k : Nat) (h : k < l.length) : (spL l k)[k]? = some l[k] := by
  unfold spL
  rw [List.getElem?_append_right (by simp; omega)]
  simp [List.getElem?_drop]
  rw [Nat.min_eq_left (by omega), Nat.sub_self, Nat.add_zero]
  exact List.getElem?_eq_getElem h
theorem spL_succ (l : List ByteArray) (k : Nat) (h : k < l.length) : (spL l k).set k (trimV l[k]) = spL l (k + 1) := by
  unfold spL
  rw [List.set_append_right _ _ (by simp; omega), List.take_succ_eq_append_getElem h, List.map_append, List.append_assoc]
  congr 1
  simp only [List.length_map, List.length_take]
  rw [Nat.min_eq_left (by omega), Nat.sub_self, List.drop_eq_getElem_cons h]
  rfl
def SpAt (l : List ByteArray) (B : Nat) (w wr : World) (k : Nat) : Prop := wr.heap[B]? = some (.cells ((spL l k).map Value.string).toArray 9 (0, 0)) ∧ Below w.heap.size w wr
theorem SpAt.cell {l : List ByteArray} {B k : Nat} {w wr : World} (h : SpAt l B w wr k) (hk : k < l.length) : wr.cell? ⟨B, k, none⟩ = some (.string l[k]) := by
  rw [blk_cell h.1]
  simp [spL_at l k hk]
theorem SpAt.below {l : List ByteArray} {B k : Nat} {w wr w1 : World} (h : SpAt l B w wr k) (hb : Below wr.heap.size wr w1) : SpAt l B w w1 k := ⟨blk_below h.1 hb, below_step h.2 hb⟩
theorem SpAt.put {l : List ByteArray} {B k : Nat} {w wr : World} (h : SpAt l B w wr k) (hB : w.heap.size ≤ B) (hk : k < l.length) : SpAt l B w (wr.setCell ⟨B, k, none⟩ (.string (trimV l[k]))) (k + 1) := by
  refine ⟨blk_put h.1 k _ ?_, h.2.setCell (p := ⟨B, k, none⟩) hB _⟩
  rw [← spL_succ l k hk]
  simp [List.map_set]
theorem split_conv (c : Int) (w : World) : (convert 97 9 (.slice (some ⟨w.heap.size, 0, none⟩) 1 1)).run Tryz.prog (w.alloc (.cells #[.int .u8 c] 5)) = .ok (.string ⟨#[UInt8.ofNat c.toNat]⟩) (w.alloc (.cells #[.int .u8 c] 5)) := by
  have h := run_convert_bytes_arg (P := Tryz.prog) (w.alloc (.cells #[.int .u8 c] 5)) 97 5 Tryz.underlying97 Tryz.underlying5 w.heap.size 0 1 1 [c] rfl (fun i hi => by
    obtain rfl : i = 0 := by omega
    rw [blk_cell (blk_new w _)]
    rfl) 9 Tryz.underlying9
  exact h
theorem pieces_le (sep : ByteArray) : ∀ (k : Nat) (s : ByteArray), ∀ x ∈ Lib.splitB sep 0 k s, x.size ≤ s.size
  | 0, s, x, h => by
    rw [Lib.splitB_zero, List.mem_singleton] at h
    rw [h]
    exact Nat.le_refl _
  | k + 1, s, x, h => by
    unfold Lib.splitB at h
    split at h
    · rw [List.mem_singleton] at h
      rw [h]
      exact Nat.le_refl _
    · rcases List.mem_cons.1 h with h | h
      · rw [h, ByteArray.size_extract]
        omega
      · have := pieces_le sep k _ x h
        rw [ByteArray.size_extract] at this
        omega
set_option maxHeartbeats 2000000 in
set_option maxRecDepth 100000 in
theorem split_any (s : ByteArray) (c : Int) (w : World) (hs : s.size < 4294967281) :
    Calls Tryz.prog 47 #[.string s, .int .u8 c] w fun e w' => ∃ v0_ : Value, e = .returned v0_ ∧ Kd.R Kd.string 9 w' w.heap.size (fun _ => True) v0_ (splitV s (UInt8.ofNat c.toNat)) ∧ Below w.heap.size w w' := by
  have hconv := split_conv c w
  have hle := Lib.countB_le ⟨#[UInt8.ofNat c.toNat]⟩ (Nat.le_refl _) s.size s (Nat.le_refl _)
  have hlen := Lib.splitB_all ⟨#[UInt8.ofNat c.toNat]⟩ (Nat.le_refl _) 0 _ s rfl
  have hS := fun w => ShX.xSplit_one Tryz.laysM146 s (UInt8.ofNat c.toNat) w hs
  obtain ⟨l, hl⟩ : ∃ l, Lib.splitB ⟨#[UInt8.ofNat c.toNat]⟩ 0 (Lib.countB s ⟨#[UInt8.ofNat c.toNat]⟩) s = l := ⟨_, rfl⟩
  have hsz : ∀ (j : Nat) (h : j < l.length), (l[j]'h).size < 4294967281 := fun j h => by
    have := pieces_le ⟨#[UInt8.ofNat c.toNat]⟩ (Lib.countB s ⟨#[UInt8.ofNat c.toNat]⟩) s l[j] (by rw [hl]; exact List.getElem_mem h)
    omega
  unfold splitV
  rw [hl] at hS hlen ⊢
  have hll : l.length ≤ 4294967281 := by omega
  rw [← hlen] at hS
  have hS2 : ∀ w, Calls Tryz.prog 90 #[.string s, .string ⟨#[UInt8.ofNat c.toNat]⟩] w fun e w' => e = .returned (.slice (some ⟨w.heap.size, 0, none⟩) l.length l.length) ∧ w' = w.alloc (.cells (l.map Value.string).toArray 9) := hS
  have HSZ : Aside (∀ (j : Nat) (h : j < l.length), (l[j]'h).size < 4294967281) := hsz
  have H0 : Aside (SpAt l (w.heap.size + 1) w ((w.alloc (.cells #[.int .u8 c] 5)).alloc (.cells (l.map Value.string).toArray 9)) 0) := by
    refine ⟨?_, ((Below.refl _ w).alloc (Nat.le_refl _) _).alloc (by simp) _⟩
    have := blk_new (w.alloc (.cells #[.int .u8 c] 5)) (.cells (l.map Value.string).toArray 9)
    simpa [spL] using this
  clear hlen hl hS hsz hle
  go_enter Tryz.func47, Tryz.ntmps47
  go_wp2_with (go_at_call 90; refine (hS2 _).mono ?_; rintro e w' ⟨rfl, rfl⟩)
  clear hS2 hconv
  go_loopw [15] (fun i wr => ∃ k : Nat, k ≤ l.length ∧ i = .int .i64 k ∧ Aside (SpAt l (w.heap.size + 1) w wr k)) (fun i _ => l.length - (RowKit.intOf i).toNat)
  case atStart => exact ⟨0, Nat.zero_le _, rfl, H0⟩
  case round =>
    clear H0
    obtain ⟨k, hk, rfl, A1⟩ := hrel
    by_cases hlt : k < l.length
    · have hltz : (k : Int) < (l.length : Int) := by omega
      obtain ⟨x, hx⟩ : ∃ x, l[k] = x := ⟨_, rfl⟩
      have hcell : wr.cell? ⟨w.heap.size + 1, k, none⟩ = some (.string x) := by rw [A1.out.cell hlt, hx]
      have hxs : x.size < 4294967281 := by rw [← hx]; exact HSZ.out k hlt
      have HX : Aside (l[k] = x) := hx
      clear hx
      go_wp2_with fail
      refine (trim_any x _ hxs).mono ?_
      rintro e w1 ⟨rfl, hb1⟩
      have A2 : Aside (SpAt l (w.heap.size + 1) w w1 k) := A1.out.below hb1
      have hcell2 := A2.out.cell hlt
      have hfz2 := blk_frozen A2.out.1 k
      clear hb1 hcell A1
      go_wp2
      refine ⟨⟨k + 1, by omega, by go_num, ?_⟩, by simp [RowKit.intOf]; omega⟩
      have h := A2.out.put (by omega) hlt
      rw [HX.out] at h
      exact h
    · obtain rfl : k = l.length := by omega
      have hltz : ¬ ((l.length : Int) < (l.length : Int)) := by omega
      go_wp2
      go_ret
      refine ⟨_, rfl, ⟨fun _ _ => True.intro, (l.map trimV).map Value.string, ⟨?_, .inr ⟨w.heap.size + 1, l.length, _, ?_, by omega, A1.out.1, by simp, by unfold maxLen; omega, ?_, ?_⟩⟩, Kd.reps_scalar _⟩, A1.out.2⟩
      · show _ = (l.map trimV).length * 1
        simp
      · simp
      · show _ = l.length * 1
        simp [spL]
      · show List.take ((l.map trimV).length * 1) _ = _
        simp [spL]
        exact List.take_of_length_le (by simp)
end Go.Proofs.Scn
