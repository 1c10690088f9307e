/- Contracts of functions of the given program, proved by walking their text (module Blk3); no condition beside those that each theorem states. -/
import Derived.Test.YtmfhhlgjbjbnhaaDoorProg
import Derived.WalkKit
import Derived.WalkLawsBesides
import Derived.WalkSpells
import Derived.Below
import Derived.Deep.Draws
import Derived.Deep.AppendLies
import Derived.Maps.AppendAt
import Derived.OwnWalk
import Derived.Laws.BytesArg
import Derived.Laws.MakeOwn
import Derived.Laws.OwnMore
import Derived.Deep.OwnRows
import Derived.Laws.Slices
import Derived.KernelRfl
import Derived.RowKit3
import Derived.Deep.LoopGhost
import Derived.Deep.QuietTactic
import Derived.BigQuiet
import Derived.WideLaws
import Derived.Deep.DeepCutAuto
import Derived.Deep.CutBlock
import Derived.Deep.RegionHeld3
import Derived.Laws.Rows
import Derived.Laws.Tables
import Derived.RowKit
import Derived.Outline
import Derived.Test.YtmfhhlgjbjbnhaaDoorBth
import Derived.Lib.Hide
import Derived.Deep.MidRow
import Derived.Test.YtmfhhlgjbjbnhaaDoorBlk2
set_option linter.unusedVariables false
set_option linter.unusedSimpArgs false
namespace Go.Proofs
open Go.RowKit Go.Proofs.YtmfhhlgjbjbnhaaDoorW.PrintWords
theorem subV_bd (a b : Int) : -1099511627776 ≤ subV a b ∧ subV a b ≤ 1099511627776 := clampV_bd _
def shiftV (f : Nat → Int × Int) (room wide : Int) : Int :=
  if (f 2).1 = 1 ∨ (f 7).1 ≠ 1 then mgS f 3 else if (f 5).1 = 1 then max (subV room (addV wide (sumV (acrossL f)))) 0 / 2 else max (subV room (addV wide (sumV (acrossL f)))) 0
def shiftB (f : Nat → Int × Int) (room wide : Int) : Bool :=
  if (f 2).1 = 1 ∨ (f 7).1 ≠ 1 then true else sumB (acrossL f) && addB wide (sumV (acrossL f)) && subB room (addV wide (sumV (acrossL f)))
set_option maxRecDepth 100000 in
set_option maxHeartbeats 4000000 in
theorem shiftC (f : Nat → Int × Int) (room wide : Int) (w : World) :
    Calls Tryd.prog 12 #[.agg (styA f), .int .i64 room, .int .i64 wide] w fun e w' => e = .returned (.tuple #[.int .i64 (shiftV f room wide), .bool (shiftB f room wide)]) ∧ Below w.heap.size w w' := by
  have a0 := at_styA f 2 (by omega)
  have a1 := at_styA f 7 (by omega)
  have a2 := at_styA f 5 (by omega)
  go_enter Tryd.func12, Tryd.ntmps12
  go_upto_region 1 with (fail)
  obtain ⟨W, hW⟩ : ∃ W, W = (w.alloc (Obj.cells (styA f) 25)) := ⟨_, rfl⟩
  have hg : W.heap[w.heap.size]? = some (.cells (styA f) 25 (0, 0)) := by rw [hW]; exact heap_alloc_new _ _
  have hB : Below w.heap.size w W := by rw [hW]; exact (Below.refl _ _).alloc (Nat.le_refl _) _
  have hz : w.heap.size < W.heap.size := lt_get hg
  rw [← hW]
  clear hW
  go_upto_region 2 with (first | (refine wpList_load_row rfl 25 _ rfl w.heap.size rfl 25 _ _ _ hg Tryd.underlying25 rfl (info56.trans (congrArg some (size_styA _).symm)) ?_) | (go_at_call 10; refine (ofSC f _).mono ?_; rintro e w1 ⟨rfl, hb1⟩))
  obtain ⟨V, hV⟩ : ∃ V, V = w1.alloc (Obj.cells (sidesV (mgS f 0) (mgS f 1) (mgS f 2) (mgS f 3) (bdS f 0) (bdS f 1) (bdS f 2) (bdS f 3) (pdS f 0) (pdS f 1) (pdS f 2) (pdS f 3)) 32) := ⟨_, rfl⟩
  have p1 : Below w.heap.size w w1 := hB.trans (hb1.mono hB.size)
  have hg1 : w1.heap[w.heap.size]? = some (.cells (styA f) 25 (0, 0)) := below_of_row hb1 hg hz
  have hg2 : V.heap[w.heap.size]? = some (.cells (styA f) 25 (0, 0)) := by
    have := lt_get hg1
    rw [hV, alloc_get, if_neg (by omega)]; exact hg1
  have hs2 : V.heap[w1.heap.size]? = some (.cells (sidesV (mgS f 0) (mgS f 1) (mgS f 2) (mgS f 3) (bdS f 0) (bdS f 1) (bdS f 2) (bdS f 3) (pdS f 0) (pdS f 1) (pdS f 2) (pdS f 3)) 32 (0, 0)) := by rw [hV]; exact heap_alloc_new _ _
  have hBV : Below w.heap.size w V := by rw [hV]; exact p1.alloc p1.size _
  rw [← hV]
  clear hV hb1 hB hz hg hg1
  have c2 : V.cell? ⟨w.heap.size, 4, none⟩ = some (.int .i64 (f 2).1) := (cell_of_row _ _ _ _ _ _ hg2).trans a0
  have c7 : V.cell? ⟨w.heap.size, 14, none⟩ = some (.int .i64 (f 7).1) := (cell_of_row _ _ _ _ _ _ hg2).trans a1
  have c5 : V.cell? ⟨w.heap.size, 10, none⟩ = some (.int .i64 (f 5).1) := (cell_of_row _ _ _ _ _ _ hg2).trans a2
  have d3 : V.cell? ⟨w1.heap.size, 3, none⟩ = some (.int .i64 (mgS f 3)) := (cell_of_row _ _ _ _ _ _ hs2).trans rfl
  clear a0 a1 a2 hg2
  have HB := Lib.hid hBV
  clear hBV
  by_cases q2 : (f 2).1 = 1
  · have e2 : ((f 2).1 == 1) = true := by rw [q2]; rfl
    have HC : Hid ((f 2).1 = 1 ∨ (f 7).1 ≠ 1) := Lib.hid (.inl q2)
    clear q2 c7 c5 hs2
    go_wp2_with fail
    go_ret2
    exact ⟨ret_ib (by unfold shiftV; rw [if_pos HC.out]) (by unfold shiftB; rw [if_pos HC.out]), HB.out⟩
  · have e2 : ((f 2).1 == 1) = false := beq_eq_false_iff_ne.2 q2
    by_cases q7 : (f 7).1 = 1
    · have e7 : ((f 7).1 != 1) = false := by rw [q7]; rfl
      have HC : Hid (¬ ((f 2).1 = 1 ∨ (f 7).1 ≠ 1)) := Lib.hid (by simp [q2, q7])
      clear q2 q7
      by_cases q5 : (f 5).1 = 1
      · have e5 : ((f 5).1 == 1) = true := by rw [q5]; rfl
        have H5 := Lib.hid q5
        clear q5
        obtain ⟨n1, n2⟩ := subV_bd room (addV wide (sumV (acrossL f)))
        go_wp2_with (first | (refine wpList_load_row rfl 32 _ rfl w1.heap.size rfl 32 _ _ _ hs2 Tryd.underlying32 rfl (by kernel_rfl) ?_) | (go_at_call 9; refine (acrossC f _).mono ?_; rintro e w2 ⟨rfl, hb2⟩; obtain ⟨hc, hf⟩ := bcell hb2; have hl2 := lt_get hs2; have hl0 : w.heap.size < V.heap.size := block_lt_of_cell c2) | (go_at_call 29; refine (addC _ _ _).mono ?_; rintro e w3 ⟨rfl, rfl⟩) | (go_at_call 28; refine (subC _ _ _).mono ?_; rintro e w3 ⟨rfl, rfl⟩))
        all_goals have p2 : Below w.heap.size w w2 := HB.out.trans (hb2.mono HB.out.size)
        all_goals go_ret2
        all_goals exact ⟨ret_ib (by unfold shiftV; rw [if_neg HC.out, if_pos H5.out]; first | omega | (simp only [wrap64]; omega)) (by unfold shiftB; rw [if_neg HC.out]; simp [*]), p2⟩
      · have e5 : ((f 5).1 == 1) = false := beq_eq_false_iff_ne.2 q5
        have H5 := Lib.hid q5
        clear q5
        obtain ⟨n1, n2⟩ := subV_bd room (addV wide (sumV (acrossL f)))
        go_wp2_with (first | (refine wpList_load_row rfl 32 _ rfl w1.heap.size rfl 32 _ _ _ hs2 Tryd.underlying32 rfl (by kernel_rfl) ?_) | (go_at_call 9; refine (acrossC f _).mono ?_; rintro e w2 ⟨rfl, hb2⟩; obtain ⟨hc, hf⟩ := bcell hb2; have hl2 := lt_get hs2; have hl0 : w.heap.size < V.heap.size := block_lt_of_cell c2) | (go_at_call 29; refine (addC _ _ _).mono ?_; rintro e w3 ⟨rfl, rfl⟩) | (go_at_call 28; refine (subC _ _ _).mono ?_; rintro e w3 ⟨rfl, rfl⟩))
        all_goals have p2 : Below w.heap.size w w2 := HB.out.trans (hb2.mono HB.out.size)
        all_goals go_ret2
        all_goals exact ⟨ret_ib (by unfold shiftV; rw [if_neg HC.out, if_neg H5.out]; omega) (by unfold shiftB; rw [if_neg HC.out]; simp [*]), p2⟩
    · have e7 : ((f 7).1 != 1) = true := by rw [bne_iff_ne]; exact q7
      have HC : Hid ((f 2).1 = 1 ∨ (f 7).1 ≠ 1) := Lib.hid (.inr q7)
      clear q2 q7 c5 hs2
      go_wp2_with fail
      go_ret2
      exact ⟨ret_ib (by unfold shiftV; rw [if_pos HC.out]) (by unfold shiftB; rw [if_pos HC.out]), HB.out⟩
end Go.Proofs
