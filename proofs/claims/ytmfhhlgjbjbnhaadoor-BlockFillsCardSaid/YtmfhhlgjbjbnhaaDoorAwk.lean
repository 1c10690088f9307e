/- scrimlaw17.awake returns true, whatever the world: every call that it makes answers what the document fixes; no condition. -/
import Derived.Test.YtmfhhlgjbjbnhaaDoorHS
import Derived.Test.YtmfhhlgjbjbnhaaDoorBlk3
import Derived.WalkLawsBesides
import Derived.WalkSpells
import Derived.Laws.Tables
import Derived.Outline
import Derived.Lib.Hide
set_option linter.unusedVariables false
set_option linter.unusedSimpArgs false
namespace Go.Proofs.YtmfhhlgjbjbnhaaDoor
open Go.RowKit Go.Proofs.YtmfhhlgjbjbnhaaDoorW.PrintWords Go.Proofs.YtmfhhlgjbjbnhaaDoor.HS
def aS : Nat → Int × Int := fun p => if p = 2 then (2, 40) else if p = 7 then (1, 0) else if p = 9 then (2, 6) else (firstK p, firstN p)
theorem aS_row : (((((styA firstS).setIfInBounds 4 (.int .i64 2)).setIfInBounds 5 (.int .i64 40)).setIfInBounds 14 (.int .i64 1)).setIfInBounds 15 (.int .i64 0)).setIfInBounds 19 (.int .i64 6) = styA aS := by kernel_rfl
theorem shift_aw (w : World) : Calls Tryd.prog 12 #[.agg (styA aS), .int .i64 100, .int .i64 40] w fun e w' => e = .returned (.tuple #[.int .i64 54, .bool true]) ∧ Below w.heap.size w w' :=
  (shiftC aS 100 40 w).mono fun e w' ⟨he, hb⟩ => ⟨he.trans (ret_ib (by kernel_rfl) (by kernel_rfl)), hb⟩
theorem width_aw (w : World) : Calls Tryd.prog 11 #[.agg (styA firstS), .int .i64 100] w fun e w' => e = .returned (.tuple #[.int .i64 100, .bool true]) ∧ Below w.heap.size w w' :=
  (widthC firstS 100 w).mono fun e w' ⟨he, hb⟩ => ⟨he.trans (ret_ib (by kernel_rfl) (by kernel_rfl)), hb⟩
theorem across_aw (w : World) : Calls Tryd.prog 9 #[sidesOf aS] w fun e w' => e = .returned (.tuple #[.int .i64 6, .bool true]) ∧ Below w.heap.size w w' :=
  (acrossC aS w).mono fun e w' ⟨he, hb⟩ => ⟨he.trans (ret_ib (by kernel_rfl) (by kernel_rfl)), hb⟩
theorem down_aw (w : World) : Calls Tryd.prog 24 #[sidesOf aS] w fun e w' => e = .returned (.tuple #[.int .i64 0, .bool true]) ∧ Below w.heap.size w w' :=
  (downC aS w).mono fun e w' ⟨he, hb⟩ => ⟨he.trans (ret_ib (by kernel_rfl) (by kernel_rfl)), hb⟩
theorem height_aw (w : World) : Calls Tryd.prog 25 #[.agg (styA aS), .int .i64 7] w fun e w' => e = .returned (.int .i64 7) ∧ Below w.heap.size w w' :=
  (heightC aS 7 w).mono fun e w' ⟨he, hb⟩ => ⟨he.trans (congrArg (fun z => Ending.returned (.int .i64 z)) (show heightV aS 7 = 7 by kernel_rfl)), hb⟩
theorem meet_aw (w : World) : Calls Tryd.prog 22 #[.int .i64 5, .int .i64 (-3)] w fun e w' => e = .returned (.tuple #[.int .i64 2, .bool true]) ∧ Below w.heap.size w w' :=
  block_Meet.calls 2 5 (-3) 2 true w (by kernel_rfl)
theorem stack_aw (g : Nat) (w : World) (hg : w.heap[g]? = some (.cells #[.int .i64 5, .int .i64 10, .int .i64 8, .int .i64 3, .int .i64 4, .int .i64 1] 55 (0, 0))) :
    Calls Tryd.prog 23 #[.slice (some ⟨g, 0, none⟩) 2 2] w fun e w' => ∃ gg c, e = .returned (.tuple #[.slice (some ⟨gg, 0, none⟩) 2 c, .int .i64 28, .bool true]) ∧ w'.cell? ⟨gg, 0, none⟩ = some (.int .i64 5) ∧ w'.cell? ⟨gg, 1, none⟩ = some (.int .i64 23) ∧ Below w.heap.size w w' := by
  have hr : Kd.C k55 w (some ⟨g, 0, none⟩) 2 [⟨5, 10, 8⟩, ⟨3, 4, 1⟩] := by
    refine ⟨rfl, by omega, fun _ => ⟨_, rfl, fun j p hj => ?_⟩⟩
    match j, hj with
    | 0, hj =>
      obtain rfl : (⟨5, 10, 8⟩ : S55) = p := by simpa using hj
      refine ⟨_, rfl, k55_mk w _, fun i u hi => ?_⟩
      rw [add_plain, cell_of_row _ _ _ _ _ _ hg]
      match i, hi with
      | 0, hi => simpa using hi
      | 1, hi => simpa using hi
      | 2, hi => simpa using hi
    | 1, hj =>
      obtain rfl : (⟨3, 4, 1⟩ : S55) = p := by simpa using hj
      refine ⟨_, rfl, k55_mk w _, fun i u hi => ?_⟩
      rw [add_plain, cell_of_row _ _ _ _ _ _ hg]
      match i, hi with
      | 0, hi => simpa [show k55.sz = 3 from rfl] using hi
      | 1, hi => simpa [show k55.sz = 3 from rfl] using hi
      | 2, hi => simpa [show k55.sz = 3 from rfl] using hi
  refine (block_Stack.calls 9 _ 2 [⟨5, 10, 8⟩, ⟨3, 4, 1⟩] [5, 23] 28 true w hr (by simp) (by kernel_rfl)).mono ?_
  rintro e w' ⟨v, rfl, hv, hb⟩
  obtain ⟨inner, ho⟩ := Kd.R_own hv
  obtain ⟨g2, cap, rfl, _⟩ := ho.form (by simp)
  obtain ⟨A, c, he, _, hC⟩ := Kd.R_reads hv
  injection he with he1 he2 he3
  subst he1
  obtain ⟨ad, ea, h0⟩ := Kd.at_int hC 0 (by omega) (by simp)
  obtain ⟨ad', ea', h1⟩ := Kd.at_int hC 1 (by omega) (by simp)
  injection ea with ea
  injection ea' with ea'
  subst ea
  subst ea'
  rw [add_plain] at h0 h1
  exact ⟨g2, cap, rfl, h0, h1, hb⟩
theorem wpList_load_row_g {P : Program} {ops : Array Oper} {rest : List Oper} {o : Oper} {a : Act} {w : World} {Q : Exit → Act → World → Prop} (hw : Region.wanted o (yielded ops a.tmps) = true) (ty : TypeId) (x : Operand) (ho : o.op = .load ty x)
    (g : Nat) (hx : a.eval x = .pointer (some ⟨g, 0, none⟩)) (t : TypeId) (cs : Array Value) (fr : Nat × Nat) (d : TypeDesc) (hg : w.heap[g]? = some (.cells cs t fr))
    (hu : P.underlying ty = some d) (hd : (match d with | .struct _ | .array _ _ => true | _ => false) = true) (hi : (P.info? ty).map (·.size) = some cs.size)
    (h : wpList P ops Q rest (a.put o.dst (.agg cs)) w) : wpList P ops Q (o :: rest) a w :=
  wpList_step fun _ hK => by rw [if_pos hw]; exact wp_load_row ty x ho g hx t cs fr d hg hu hd hi (hK _ _ h)
structure AwMid (w wc : World) (g : Nat) : Prop where
  row : wc.heap[g]? = some (.cells (styA aS) 25 (0, 0))
  below : Below w.heap.size w wc
set_option maxRecDepth 100000 in
set_option maxHeartbeats 4000000 in
theorem awake17C (w : World) : Calls Tryd.prog 7 #[] w fun e w' => e = .returned (.bool true) ∧ Below w.heap.size w w' := by
  have hz := zero56
  go_enter Tryd.func7, Tryd.ntmps7
  go_upto_region 2 with (first
    | (go_at_call 21; refine (first17C _).mono ?_; rintro e w1 ⟨rfl, hb1⟩)
    | (refine wpList_store_row rfl 25 _ _ rfl _ (styA firstS) rfl rfl 25 (styA fun _ => (0, 0)) (heap_alloc_at _ _ ?_) (info56.trans (congrArg some (size_styA _).symm)) ((size_styA _).trans (size_styA _).symm) (all_styA _) ?_; · simp))
  obtain ⟨W1, hW1⟩ : ∃ W1, W1 = (w1.alloc (Obj.cells (styA fun _ => (0, 0)) 25)).setRow w1.heap.size (styA firstS) := ⟨_, rfl⟩
  obtain ⟨g, hgd⟩ : ∃ g, g = w1.heap.size := ⟨_, rfl⟩
  have hr1 : W1.heap[g]? = some (.cells (styA firstS) 25 (0, 0)) := by rw [hW1, hgd]; exact setRow_heap _ _ _ _ 25 _ (heap_alloc_new _ _)
  have hB1 : Below w.heap.size w W1 := by rw [hW1]; exact below_setRow (hb1.alloc hb1.size _) _ _ hb1.size
  have hgg : w.heap.size ≤ g := by rw [hgd]; exact hb1.size
  rw [← hW1, ← hgd]
  clear hW1 hgd hz
  go_frame
  obtain ⟨y4, e4⟩ := cell_ex hr1 4 (by rw [size_styA]; omega)
  obtain ⟨y5, e5⟩ := cell_ex hr1 5 (by rw [size_styA]; omega)
  obtain ⟨y14, e14⟩ := cell_ex hr1 14 (by rw [size_styA]; omega)
  obtain ⟨y15, e15⟩ := cell_ex hr1 15 (by rw [size_styA]; omega)
  obtain ⟨y19, e19⟩ := cell_ex hr1 19 (by rw [size_styA]; omega)
  have f4 := frozen_of_row W1 g 4 _ _ hr1
  have f5 := frozen_of_row W1 g 5 _ _ hr1
  have f14 := frozen_of_row W1 g 14 _ _ hr1
  have f15 := frozen_of_row W1 g 15 _ _ hr1
  have f19 := frozen_of_row W1 g 19 _ _ hr1
  have HI := Lib.hid (And.intro hr1 hB1)
  clear hr1 hB1
  go_upto_region 5 with (fail)
  obtain ⟨W2, hW2⟩ : ∃ W2, W2 = ((((W1.setCell ⟨g, 4, none⟩ (.int .i64 2)).setCell ⟨g, 5, none⟩ (.int .i64 40)).setCell ⟨g, 14, none⟩ (.int .i64 1)).setCell ⟨g, 15, none⟩ (.int .i64 0)).setCell ⟨g, 19, none⟩ (.int .i64 6) := ⟨_, rfl⟩
  have hr2 : W2.heap[g]? = some (.cells (styA aS) 25 (0, 0)) := by
    rw [hW2, ← aS_row]
    iterate 5 apply heap_setCell_same
    exact HI.out.1
  have hB2 : Below w.heap.size w W2 := by
    rw [hW2]
    iterate 5 refine Below.setCell ?_ (by exact hgg) _
    exact HI.out.2
  rw [← hW2]
  clear hW2 e4 e5 e14 e15 e19 f4 f5 f14 f15 f19 HI hb1
  go_upto_region 6 with (first | (refine wpList_load_row rfl 25 _ rfl g rfl 25 _ _ _ hr2 Tryd.underlying25 rfl (info56.trans (congrArg some (size_styA _).symm)) ?_) | (go_at_call 12; refine (shift_aw _).mono ?_; rintro e w2 ⟨rfl, hb2⟩))
  have hr3 := below_of_row hb2 hr2 (lt_get hr2)
  have hB3 := hB2.trans (hb2.mono hB2.size)
  clear hr2 hB2 hb2
  go_upto_region 7 with (first | (go_at_call 21; refine (first17C _).mono ?_; rintro e w3 ⟨rfl, hb3⟩) | (go_at_call 11; refine (width_aw _).mono ?_; rintro e w4 ⟨rfl, hb4⟩))
  have hr4 := below_of_row hb4 (below_of_row hb3 hr3 (lt_get hr3)) (lt_get (below_of_row hb3 hr3 (lt_get hr3)))
  have hB4 := (hB3.trans (hb3.mono hB3.size)).trans (hb4.mono (hB3.trans (hb3.mono hB3.size)).size)
  clear hr3 hB3 hb3 hb4
  go_upto_region 8 with (go_at_call 22; refine (meet_aw _).mono ?_; rintro e w5 ⟨rfl, hb5⟩)
  have hr5 := below_of_row hb5 hr4 (lt_get hr4)
  have hB5 := hB4.trans (hb5.mono hB4.size)
  clear hr4 hB4 hb5
  go_upto_region 9 with (go_at_call 23; refine (stack_aw w5.heap.size _ (heap_alloc_new _ _)).mono ?_; rintro e w6 ⟨gg, c, rfl, k0, k1, hb6⟩)
  have hr6 : w6.heap[g]? = some (.cells (styA aS) 25 (0, 0)) := below_of_row hb6 (by rw [alloc_get, if_neg (by have := lt_get hr5; omega)]; exact hr5) (by rw [alloc_size]; have := lt_get hr5; omega)
  have hB6 : Below w.heap.size w w6 := (hB5.alloc hB5.size _).trans (hb6.mono (hB5.alloc hB5.size _).size)
  clear hr5 hB5 hb6
  go_upto_region 10 with (first | (refine wpList_load_row rfl 25 _ rfl g rfl 25 _ _ _ hr6 Tryd.underlying25 rfl (info56.trans (congrArg some (size_styA _).symm)) ?_) | (go_at_call 10; refine (ofSC aS _).mono ?_; rintro e w7 ⟨rfl, hb7⟩) | (go_at_call 9; refine (across_aw _).mono ?_; rintro e w8 ⟨rfl, hb8⟩))
  have hr8 := below_of_row hb8 (below_of_row hb7 hr6 (lt_get hr6)) (lt_get (below_of_row hb7 hr6 (lt_get hr6)))
  have hB8 := (hB6.trans (hb7.mono hB6.size)).trans (hb8.mono (hB6.trans (hb7.mono hB6.size)).size)
  have k08 := pw_cell_below hb8 (pw_cell_below hb7 k0)
  have k18 := pw_cell_below hb8 (pw_cell_below hb7 k1)
  clear hr6 hB6 hb7 hb8 k0 k1
  go_upto_region 11 with (first | (refine wpList_load_row rfl 25 _ rfl g rfl 25 _ _ _ hr8 Tryd.underlying25 rfl (info56.trans (congrArg some (size_styA _).symm)) ?_) | (go_at_call 10; refine (ofSC aS _).mono ?_; rintro e w9 ⟨rfl, hb9⟩) | (go_at_call 24; refine (down_aw _).mono ?_; rintro e wa ⟨rfl, hba⟩))
  have hra := below_of_row hba (below_of_row hb9 hr8 (lt_get hr8)) (lt_get (below_of_row hb9 hr8 (lt_get hr8)))
  have hBa := (hB8.trans (hb9.mono hB8.size)).trans (hba.mono (hB8.trans (hb9.mono hB8.size)).size)
  have k0a := pw_cell_below hba (pw_cell_below hb9 k08)
  have k1a := pw_cell_below hba (pw_cell_below hb9 k18)
  clear hr8 hB8 hb9 hba k08 k18
  go_wp2_with (first | (refine wpList_load_row_g rfl 25 _ rfl g rfl 25 _ _ _ hra Tryd.underlying25 rfl (info56.trans (congrArg some (size_styA _).symm)) ?_) | (go_at_call 25; refine (height_aw _).mono ?_; rintro e wb ⟨rfl, hbb⟩))
  go_ret
  exact ⟨rfl, hBa.trans (hbb.mono hBa.size)⟩
end Go.Proofs.YtmfhhlgjbjbnhaaDoor
