/- Contracts of functions of the given program, proved by walking their text (module Blk); no condition beside those that each theorem states. -/
import Derived.Test.YtmfhhlgjbjbnhaaDoorProg
import Derived.WalkKit
import Derived.WalkLawsBesides
import Derived.WalkSpells
import Derived.Below
import Derived.Deep.Draws
import Derived.Deep.AppendLies
import Derived.Maps.AppendAt
import Derived.OwnWalk
import Derived.Laws.BytesArg
import Derived.Laws.MakeOwn
import Derived.Laws.OwnMore
import Derived.Deep.OwnRows
import Derived.Laws.Slices
import Derived.KernelRfl
import Derived.RowKit3
import Derived.Deep.LoopGhost
import Derived.Deep.QuietTactic
import Derived.BigQuiet
import Derived.WideLaws
import Derived.Deep.DeepCutAuto
import Derived.Deep.CutBlock
import Derived.Deep.RegionHeld3
import Derived.Laws.Rows
import Derived.Laws.Tables
import Derived.RowKit
import Derived.Outline
import Derived.Test.YtmfhhlgjbjbnhaaDoorSty
import Derived.Lib.Hide
import Derived.Deep.MidRow
set_option linter.unusedVariables false
set_option linter.unusedSimpArgs false
namespace Go.Proofs
open Go.RowKit
def mgS (f : Nat → Int × Int) (i : Nat) : Int := if (f (4 + i)).1 = 2 then (f (4 + i)).2 else 0
def bdS (f : Nat → Int × Int) (i : Nat) : Int := (f (12 + i)).2
def pdS (f : Nat → Int × Int) (i : Nat) : Int := (f (8 + i)).2
def sideN (k : Nat) (g : Nat → Int) (i : Nat) : Value := .int .i64 (if i < k then g i else 0)
def sideRow (f : Nat → Int × Int) (k : Nat) : Array Value := #[sideN k (mgS f) 0, sideN k (mgS f) 1, sideN k (mgS f) 2, sideN k (mgS f) 3, sideN k (bdS f) 0, sideN k (bdS f) 1, sideN k (bdS f) 2, sideN k (bdS f) 3, sideN k (pdS f) 0, sideN k (pdS f) 1, sideN k (pdS f) 2, sideN k (pdS f) 3]
abbrev sidesV (m0 m1 m2 m3 b0 b1 b2 b3 p0 p1 p2 p3 : Int) : Array Value := #[.int .i64 m0, .int .i64 m1, .int .i64 m2, .int .i64 m3, .int .i64 b0, .int .i64 b1, .int .i64 b2, .int .i64 b3, .int .i64 p0, .int .i64 p1, .int .i64 p2, .int .i64 p3]
abbrev sidesOf (f : Nat → Int × Int) : Value := .agg (sidesV (mgS f 0) (mgS f 1) (mgS f 2) (mgS f 3) (bdS f 0) (bdS f 1) (bdS f 2) (bdS f 3) (pdS f 0) (pdS f 1) (pdS f 2) (pdS f 3))
theorem sideRow_end (f : Nat → Int × Int) : sideRow f 4 = sidesV (mgS f 0) (mgS f 1) (mgS f 2) (mgS f 3) (bdS f 0) (bdS f 1) (bdS f 2) (bdS f 3) (pdS f 0) (pdS f 1) (pdS f 2) (pdS f 3) := rfl
theorem sideRow_zero (f : Nat → Int × Int) : sideRow f 0 = sidesV 0 0 0 0 0 0 0 0 0 0 0 0 := rfl
theorem size_sideRow (f : Nat → Int × Int) (k : Nat) : (sideRow f k).size = 12 := rfl
theorem sideRow_m (f : Nat → Int × Int) (k : Nat) (hk : k < 4) (h : (f (4 + k)).1 = 2) :
    (((sideRow f k).setIfInBounds k (.int .i64 (f (4 + k)).2)).setIfInBounds (4 + k) (.int .i64 (f (12 + k)).2)).setIfInBounds (8 + k) (.int .i64 (f (8 + k)).2) = sideRow f (k + 1) := by
  have e : mgS f k = (f (4 + k)).2 := by unfold mgS; rw [if_pos h]
  rw [← e]
  obtain rfl | rfl | rfl | rfl : k = 0 ∨ k = 1 ∨ k = 2 ∨ k = 3 := by omega
  all_goals rfl
theorem sideRow_n (f : Nat → Int × Int) (k : Nat) (hk : k < 4) (h : ¬ (f (4 + k)).1 = 2) :
    ((sideRow f k).setIfInBounds (4 + k) (.int .i64 (f (12 + k)).2)).setIfInBounds (8 + k) (.int .i64 (f (8 + k)).2) = sideRow f (k + 1) := by
  have e : mgS f k = 0 := by unfold mgS; rw [if_neg h]
  have e2 : (sideRow f k).setIfInBounds k (.int .i64 (mgS f k)) = sideRow f k := by
    rw [e]
    obtain rfl | rfl | rfl | rfl : k = 0 ∨ k = 1 ∨ k = 2 ∨ k = 3 := by omega
    all_goals rfl
  rw [← e2]
  obtain rfl | rfl | rfl | rfl : k = 0 ∨ k = 1 ∨ k = 2 ∨ k = 3 := by omega
  all_goals rfl
theorem all_sidesV (m0 m1 m2 m3 b0 b1 b2 b3 p0 p1 p2 p3 : Int) : (sidesV m0 m1 m2 m3 b0 b1 b2 b3 p0 p1 p2 p3).all (·.oneCell') = true := by kernel_rfl
theorem info63 : (Tryd.prog.info? 32).map (·.size) = some 12 := by kernel_rfl
structure OfAt (f : Nat → Int × Int) (w : World) (k : Nat) (wr : World) : Prop where
  h1 : wr.heap[w.heap.size]? = some (.cells (styA f) 25 (0, 0))
  h2 : wr.heap[w.heap.size + 1]? = some (.cells (sidesV 0 0 0 0 0 0 0 0 0 0 0 0) 32 (0, 0))
  h3 : wr.heap[w.heap.size + 1 + 1]? = some (.cells (sideRow f k) 32 (0, 0))
  below : Below w.heap.size w wr
theorem OfAt.size {f : Nat → Int × Int} {w : World} {k : Nat} {wr : World} (h : OfAt f w k wr) : w.heap.size + 1 + 1 < wr.heap.size := lt_get h.h3
theorem OfAt.cells {f : Nat → Int × Int} {w : World} {k : Nat} {wr : World} (h : OfAt f w k wr) (q : Nat) (hq : q < 4) :
    wr.cell? ⟨w.heap.size, (4 + q) * 2, none⟩ = some (.int .i64 (f (4 + q)).1) ∧ wr.cell? ⟨w.heap.size, (4 + q) * 2 + 1, none⟩ = some (.int .i64 (f (4 + q)).2) ∧
    wr.cell? ⟨w.heap.size, (12 + q) * 2 + 1, none⟩ = some (.int .i64 (f (12 + q)).2) ∧ wr.cell? ⟨w.heap.size, (8 + q) * 2 + 1, none⟩ = some (.int .i64 (f (8 + q)).2) :=
  ⟨(cell_of_row _ _ _ _ _ _ h.h1).trans (at_styA f _ (by omega)), (cell_of_row _ _ _ _ _ _ h.h1).trans (at_styA1 f _ (by omega)), (cell_of_row _ _ _ _ _ _ h.h1).trans (at_styA1 f _ (by omega)), (cell_of_row _ _ _ _ _ _ h.h1).trans (at_styA1 f _ (by omega))⟩
def midRow (f : Nat → Int × Int) (k : Nat) : Array Value := (sideRow f k).setIfInBounds k (.int .i64 (mgS f k))
theorem size_midRow (f : Nat → Int × Int) (k : Nat) : (midRow f k).size = 12 := by simp [midRow, size_sideRow]
theorem midRow_next (f : Nat → Int × Int) (k : Nat) (hk : k < 4) : ((midRow f k).setIfInBounds (4 + k) (.int .i64 (f (12 + k)).2)).setIfInBounds (8 + k) (.int .i64 (f (8 + k)).2) = sideRow f (k + 1) := by
  obtain rfl | rfl | rfl | rfl : k = 0 ∨ k = 1 ∨ k = 2 ∨ k = 3 := by omega
  all_goals rfl
theorem midRow_no (f : Nat → Int × Int) (k : Nat) (hk : k < 4) (h : ¬ (f (4 + k)).1 = 2) : midRow f k = sideRow f k := by
  have e : mgS f k = 0 := by unfold mgS; rw [if_neg h]
  unfold midRow
  rw [e]
  obtain rfl | rfl | rfl | rfl : k = 0 ∨ k = 1 ∨ k = 2 ∨ k = 3 := by omega
  all_goals rfl
structure OfMid (f : Nat → Int × Int) (w : World) (k : Nat) (wr : World) : Prop where
  h1 : wr.heap[w.heap.size]? = some (.cells (styA f) 25 (0, 0))
  h2 : wr.heap[w.heap.size + 1]? = some (.cells (sidesV 0 0 0 0 0 0 0 0 0 0 0 0) 32 (0, 0))
  h3 : wr.heap[w.heap.size + 1 + 1]? = some (.cells (midRow f k) 32 (0, 0))
  below : Below w.heap.size w wr
theorem OfMid.cells {f : Nat → Int × Int} {w : World} {k : Nat} {wr : World} (h : OfMid f w k wr) (hq : k < 4) :
    wr.cell? ⟨w.heap.size, (12 + k) * 2 + 1, none⟩ = some (.int .i64 (f (12 + k)).2) ∧ wr.cell? ⟨w.heap.size, (8 + k) * 2 + 1, none⟩ = some (.int .i64 (f (8 + k)).2) :=
  ⟨(cell_of_row _ _ _ _ _ _ h.h1).trans (at_styA1 f _ (by omega)), (cell_of_row _ _ _ _ _ _ h.h1).trans (at_styA1 f _ (by omega))⟩
theorem OfAt.margin {f : Nat → Int × Int} {w : World} {k : Nat} {wr : World} (h : OfAt f w k wr) (_hk : k < 4) (hm : (f (4 + k)).1 = 2) (o : Obj) :
    OfMid f w k ((wr.setCell ⟨w.heap.size + 1 + 1, k, none⟩ (.int .i64 (f (4 + k)).2)).alloc o) := by
  have s := h.size
  have e : mgS f k = (f (4 + k)).2 := by unfold mgS; rw [if_pos hm]
  refine ⟨?_, ?_, ?_, ?_⟩
  · rw [alloc_get, if_neg (by rw [setc_size]; omega), heap_setCell_other _ _ _ _ (by simp; omega)]; exact h.h1
  · rw [alloc_get, if_neg (by rw [setc_size]; omega), heap_setCell_other _ _ _ _ (by simp)]; exact h.h2
  · rw [alloc_get, if_neg (by rw [setc_size]; omega), ← e]; exact heap_setCell_same _ _ _ _ 32 _ h.h3
  · exact (h.below.setCell (by simp; omega) _).alloc (by rw [setc_size]; omega) _
theorem OfAt.noMargin {f : Nat → Int × Int} {w : World} {k : Nat} {wr : World} (h : OfAt f w k wr) (hk : k < 4) (hm : ¬ (f (4 + k)).1 = 2) (o : Obj) : OfMid f w k (wr.alloc o) := by
  have s := h.size
  refine ⟨?_, ?_, ?_, ?_⟩
  · rw [alloc_get, if_neg (by omega)]; exact h.h1
  · rw [alloc_get, if_neg (by omega)]; exact h.h2
  · rw [alloc_get, if_neg (by omega), midRow_no f k hk hm]; exact h.h3
  · exact h.below.alloc (by omega) _
theorem OfMid.next {f : Nat → Int × Int} {w : World} {k : Nat} {wr : World} (h : OfMid f w k wr) (hk : k < 4) :
    OfAt f w (k + 1) (((wr.setCell ⟨w.heap.size + 1 + 1, 4 + k, none⟩ (.int .i64 (f (12 + k)).2)).setCell ⟨w.heap.size + 1 + 1, 8 + k, none⟩ (.int .i64 (f (8 + k)).2)).drew) := by
  refine ⟨?_, ?_, ?_, ?_⟩
  · rw [heap_drew, heap_setCell_other _ _ _ _ (by simp; omega), heap_setCell_other _ _ _ _ (by simp; omega)]; exact h.h1
  · rw [heap_drew, heap_setCell_other _ _ _ _ (by simp), heap_setCell_other _ _ _ _ (by simp)]; exact h.h2
  · rw [heap_drew, ← midRow_next f k hk]; exact heap_setCell_same _ _ _ _ 32 _ (heap_setCell_same _ _ _ _ 32 _ h.h3)
  · exact ((h.below.setCell (by simp; omega) _).setCell (by simp; omega) _).drew
theorem ofS_start (f : Nat → Int × Int) (w : World) : OfAt f w 0 (((w.alloc (Obj.cells (styA f) 25)).alloc (Obj.cells (sidesV 0 0 0 0 0 0 0 0 0 0 0 0) 32)).alloc (Obj.cells (sidesV 0 0 0 0 0 0 0 0 0 0 0 0) 32)) where
  h1 := by simp only [alloc_get, alloc_size]; (repeat' (first | omega | (exact absurd trivial (by assumption)) | split | rfl))
  h2 := by simp only [alloc_get, alloc_size]; (repeat' (first | omega | (exact absurd trivial (by assumption)) | split | rfl))
  h3 := by simp only [alloc_get, alloc_size]; (repeat' (first | omega | (exact absurd trivial (by assumption)) | split | rfl))
  below := (((Below.refl _ _).alloc (Nat.le_refl _) _).alloc (by rw [alloc_size]; omega) _).alloc (by rw [alloc_size, alloc_size]; omega) _
set_option maxHeartbeats 2000000 in
theorem ofSC (f : Nat → Int × Int) (w : World) :
    Calls Tryd.prog 10 #[.agg (styA f)] w fun e w' => e = .returned (sidesOf f) ∧ Below w.heap.size w w' := by
  go_enter Tryd.func10, Tryd.ntmps10
  go_wp2_with fail
  have HI := Lib.hid (ofS_start f w)
  go_loopw [6] (fun i wr => ∃ k : Nat, k ≤ 4 ∧ i = .int .i64 k ∧ OfAt f w k wr) (fun i _ => 4 - (intOf i).toNat)
  case atStart => exact ⟨0, by omega, rfl, HI.out⟩
  case round =>
    obtain ⟨k, hk, rfl, ho⟩ := hrel
    clear HI
    by_cases hlt : k < 4
    · have hsz := ho.size
      obtain ⟨ca, cb, cc, cd⟩ := ho.cells k hlt
      obtain ⟨y0, e0⟩ := cell_ex ho.h3 k (by rw [size_sideRow]; omega)
      have f0 := frozen_of_row wr (w.heap.size + 1 + 1) k _ _ ho.h3
      have HO := Lib.hid ho
      clear ho cc cd
      go_upto_if 15 with (fail)
      go_cut [4] (fun v4 wc => v4 = .int .i64 k ∧ OfMid f w k wc)
      case first =>
        by_cases hm : (f (4 + k)).1 = 2
        · have hq : ((f (4 + k)).1 == 2) = true := by rw [hm]; rfl
          have HM := Lib.hid hm
          clear hm
          go_wp2
          go_meet
          case rel => exact ⟨rfl, HO.out.margin hlt HM.out _⟩
        · have hq : ((f (4 + k)).1 == 2) = false := beq_eq_false_iff_ne.2 hm
          have HM := Lib.hid hm
          clear hm
          go_wp2
          go_meet
          case rel => exact ⟨rfl, HO.out.noMargin hlt HM.out _⟩
      case rest =>
        obtain ⟨rfl, hr⟩ := hcut
        clear ca cb e0 f0 HO hsz
        obtain ⟨cc, cd⟩ := hr.cells hlt
        obtain ⟨y1, e1⟩ := cell_ex hr.h3 (4 + k) (by rw [size_midRow]; omega)
        obtain ⟨y2, e2⟩ := cell_ex hr.h3 (8 + k) (by rw [size_midRow]; omega)
        have f1 := frozen_of_row wc (w.heap.size + 1 + 1) (4 + k) _ _ hr.h3
        have f2 := frozen_of_row wc (w.heap.size + 1 + 1) (8 + k) _ _ hr.h3
        have HR := Lib.hid hr
        clear hr
        go_upto_region 8 with (fail)
        go_region
        go_wp2
        go_roundw
        case rel => exact ⟨k + 1, by omega, by go_num, HR.out.next hlt⟩
        case measure => simp [intOf]; omega
    · obtain rfl : k = 4 := by omega
      have H3 := ho.h3
      rw [sideRow_end] at H3
      have hB := ho.below
      have h2 := ho.h2
      clear ho
      obtain ⟨R, hR, hs, ha⟩ : ∃ R : Array Value, sidesV (mgS f 0) (mgS f 1) (mgS f 2) (mgS f 3) (bdS f 0) (bdS f 1) (bdS f 2) (bdS f 3) (pdS f 0) (pdS f 1) (pdS f 2) (pdS f 3) = R ∧ R.size = 12 ∧ R.all (·.oneCell') = true := ⟨_, rfl, rfl, all_sidesV _ _ _ _ _ _ _ _ _ _ _ _⟩
      rw [hR] at H3
      have HR := Lib.hid hR
      have HS := Lib.hid hs
      have HA := Lib.hid ha
      clear hR hs ha
      go_wp2_with (first | (refine wpList_load_row rfl 32 _ rfl (w.heap.size + 1 + 1) rfl 32 _ _ _ H3 Tryd.underlying32 rfl (info63.trans (congrArg some HS.out.symm)) ?_) | (refine wpList_store_row rfl 32 _ _ rfl (w.heap.size + 1) R rfl rfl 32 _ h2 (info63.trans (congrArg some HS.out.symm)) HS.out.symm HA.out ?_))
      refine bodyPost_ret (v := .agg R) (results_cell_row Tryd.results10 _ _ (w.heap.size + 1) 32 _ _ _ rfl (setRow_heap wr (w.heap.size + 1) _ _ 32 _ h2) Tryd.underlying32 rfl (info63.trans (congrArg some HS.out.symm))) rfl ?_
      exact ⟨by rw [← HR.out], below_setRow hB _ _ (by omega)⟩
end Go.Proofs
