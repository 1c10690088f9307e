/- Contracts of functions of the given program, proved by walking their text (module Bth); no condition beside those that each theorem states. -/
import Derived.Test.YtmfhhlgjbjbnhaaDoorProg
import Derived.WalkKit
import Derived.WalkLawsBesides
import Derived.WalkSpells
import Derived.Below
import Derived.Deep.Draws
import Derived.Deep.AppendLies
import Derived.Maps.AppendAt
import Derived.OwnWalk
import Derived.Laws.BytesArg
import Derived.Laws.MakeOwn
import Derived.Laws.OwnMore
import Derived.Deep.OwnRows
import Derived.Laws.Slices
import Derived.KernelRfl
import Derived.RowKit3
import Derived.Deep.LoopGhost
import Derived.Deep.QuietTactic
import Derived.BigQuiet
import Derived.WideLaws
import Derived.Deep.DeepCutAuto
import Derived.Deep.CutBlock
import Derived.Deep.RegionHeld3
import Derived.Laws.Rows
import Derived.Laws.Tables
import Derived.RowKit
import Derived.Outline
import Derived.Test.YtmfhhlgjbjbnhaaDoorBlk
import Derived.Test.YtmfhhlgjbjbnhaaDoorFix
import Derived.Lib.Hide
import Derived.Deep.MidRow
import Derived.StillTactics
import Derived.Laws.Pointers
set_option linter.unusedVariables false
set_option linter.unusedSimpArgs false
namespace Go.Proofs
open Go.RowKit Go.Proofs.YtmfhhlgjbjbnhaaDoorW.PrintWords
theorem info2 : (Tryd.prog.info? 2).map (fun i => (i.zero, i.size, i.bytes)) = some (some (.int .i64 0), 1, 8) := by kernel_rfl


set_option maxHeartbeats 4000000 in
theorem both31 (m0 m1 m2 m3 b0 b1 b2 b3 p0 p1 p2 p3 : Int) (w : World) :
    Calls Tryd.prog 26 #[.agg (sidesV m0 m1 m2 m3 b0 b1 b2 b3 p0 p1 p2 p3), .int .i64 3, .int .i64 1] w fun e w' =>
      e = .returned (.tuple #[.int .i64 (sumV [m3, m1, b3, b1, p3, p1]), .bool (sumB [m3, m1, b3, b1, p3, p1])]) ∧ Below w.heap.size w w' := by
  obtain ⟨i0, hi0, hz0, hz1, hz2⟩ := info_parts info2
  go_enter Tryd.func26, Tryd.ntmps26
  go_wp2_with fail
  have HI : Hid (Below w.heap.size w (w.alloc (Obj.cells (sidesV m0 m1 m2 m3 b0 b1 b2 b3 p0 p1 p2 p3) 32))) := Lib.hid ((Below.refl _ _).alloc (Nat.le_refl _) _)
  go_loopw [8, 18] (fun v i wr => ∃ k : Nat, k ≤ 3 ∧ i = .int .i64 k ∧ wr.ownsRow w.heap.size 2 1 v (2 * k) (([m3, m1, b3, b1, p3, p1] : List Int).take (2 * k) |>.map (Value.int .i64)) ∧ Below w.heap.size w wr) (fun _ i _ => 3 - (intOf i).toNat)
  case atStart => exact ⟨0, by omega, rfl, World.ownsRow_nil _ _ _ _, HI.out⟩
  case round =>
    obtain ⟨k, hk, rfl, hown, hB⟩ := hrel
    clear HI
    have hs := hB.size
    obtain rfl | rfl | rfl | rfl : k = 0 ∨ k = 1 ∨ k = 2 ∨ k = 3 := by omega
    · have ix : ∀ W, (Instr.index 75 (.agg (sidesV m0 m1 m2 m3 b0 b1 b2 b3 p0 p1 p2 p3)) (.int .i64 0)).run Tryd.prog W = .ok (.agg #[.int .i64 m0, .int .i64 m1, .int .i64 m2, .int .i64 m3]) W := fun _ => by kernel_rfl
      go_upto_region 5 with (fail)
      obtain ⟨W, hW⟩ : ∃ W, W = wr.alloc (Obj.cells #[.int .i64 m0, .int .i64 m1, .int .i64 m2, .int .i64 m3] 30) := ⟨_, rfl⟩
      have hblk : W.heap[wr.heap.size]? = some (.cells #[.int .i64 m0, .int .i64 m1, .int .i64 m2, .int .i64 m3] 30 (0, 0)) := by rw [hW]; exact heap_alloc_new _ _
      have hBW : Below w.heap.size w W := by rw [hW]; exact hB.alloc hs _
      have hown' : W.ownsRow w.heap.size 2 1 u8 (2 * 0) (([m3, m1, b3, b1, p3, p1] : List Int).take (2 * 0) |>.map (Value.int .i64)) := by rw [hW]; exact hown.alloc _
      have ag : u8.ownBlock ≠ some wr.heap.size := fun h => absurd (own_lt hown _ h) (by omega)
      have hsz : wr.heap.size < W.heap.size := lt_get hblk
      rw [← hW]
      have cx : W.cell? ⟨wr.heap.size, 3, none⟩ = some (.int .i64 m3) := (cell_of_row _ _ _ _ _ _ hblk).trans rfl
      have cy : W.cell? ⟨wr.heap.size, 1, none⟩ = some (.int .i64 m1) := (cell_of_row _ _ _ _ _ _ hblk).trans rfl
      clear hW hblk hown ix
      go_region_held3 (fun w' => w'.cell? ⟨wr.heap.size, 3, none⟩ = some (.int .i64 m3) ∧ w'.cell? ⟨wr.heap.size, 1, none⟩ = some (.int .i64 m1))
        (first
          | go_keep
          | (go_split_ands
             refine ⟨?_, ?_⟩
             · (rw [hgrow.cell_far _ (by simp; omega) (Ne.symm ag)]; assumption)
             · (rw [hgrow.cell_far _ (by simp; omega) (Ne.symm ag)]; assumption)))
        ((refine step_append_lies _ (by rfl) _ _ _ (by rfl) w.heap.size 2 i0 _ 1 8 Tryd.underlying51 hi0 hz0 hz1 hz2 rfl (by omega) u8 (2 * 0) (([m3, m1, b3, b1, p3, p1] : List Int).take (2 * 0) |>.map (Value.int .i64)) (by rfl) ((hown'.alloc _).drew)
            ⟨W.heap.size, 0, none⟩ 2 2 [.int .i64 m3, .int .i64 m1] (by rfl) (by rfl) (World.news_of_block (cs := #[.int .i64 m3, .int .i64 m1]) (t := 2) (fr := (0, 0)) (heap_alloc_new W _)) (by simp [Value.oneCell'])
            (by omega) (by simp [maxLen]) (by omega) (by simp; omega) (W.heap.size + 1) (by simp) ?_; intro gg cap w1 hown1 hgrow hat hlt))
      clear cx cy
      have hB1 : Below w.heap.size w w1 := (hBW.alloc hBW.size _).drew.grown hgrow (by simp; omega) (own_base hown')
      have hR : w1.ownsRow w.heap.size 2 1 (.slice (some ⟨gg, 0, none⟩) 2 cap) (2 * 1) (([m3, m1, b3, b1, p3, p1] : List Int).take (2 * 1) |>.map (Value.int .i64)) := hown1
      have HR := Lib.hid (And.intro hR hB1)
      clear hown1 hR hgrow hat hown' ag hB1 hBW hB
      go_wp2
      go_roundw
      case rel => exact ⟨1, by omega, by go_num, HR.out⟩
      case measure => simp [intOf]
    · have ix : ∀ W, (Instr.index 75 (.agg (sidesV m0 m1 m2 m3 b0 b1 b2 b3 p0 p1 p2 p3)) (.int .i64 1)).run Tryd.prog W = .ok (.agg #[.int .i64 b0, .int .i64 b1, .int .i64 b2, .int .i64 b3]) W := fun _ => by kernel_rfl
      go_upto_region 5 with (fail)
      obtain ⟨W, hW⟩ : ∃ W, W = wr.alloc (Obj.cells #[.int .i64 b0, .int .i64 b1, .int .i64 b2, .int .i64 b3] 30) := ⟨_, rfl⟩
      have hblk : W.heap[wr.heap.size]? = some (.cells #[.int .i64 b0, .int .i64 b1, .int .i64 b2, .int .i64 b3] 30 (0, 0)) := by rw [hW]; exact heap_alloc_new _ _
      have hBW : Below w.heap.size w W := by rw [hW]; exact hB.alloc hs _
      have hown' : W.ownsRow w.heap.size 2 1 u8 (2 * 1) (([m3, m1, b3, b1, p3, p1] : List Int).take (2 * 1) |>.map (Value.int .i64)) := by rw [hW]; exact hown.alloc _
      have ag : u8.ownBlock ≠ some wr.heap.size := fun h => absurd (own_lt hown _ h) (by omega)
      have hsz : wr.heap.size < W.heap.size := lt_get hblk
      rw [← hW]
      have cx : W.cell? ⟨wr.heap.size, 3, none⟩ = some (.int .i64 b3) := (cell_of_row _ _ _ _ _ _ hblk).trans rfl
      have cy : W.cell? ⟨wr.heap.size, 1, none⟩ = some (.int .i64 b1) := (cell_of_row _ _ _ _ _ _ hblk).trans rfl
      clear hW hblk hown ix
      go_region_held3 (fun w' => w'.cell? ⟨wr.heap.size, 3, none⟩ = some (.int .i64 b3) ∧ w'.cell? ⟨wr.heap.size, 1, none⟩ = some (.int .i64 b1))
        (first
          | go_keep
          | (go_split_ands
             refine ⟨?_, ?_⟩
             · (rw [hgrow.cell_far _ (by simp; omega) (Ne.symm ag)]; assumption)
             · (rw [hgrow.cell_far _ (by simp; omega) (Ne.symm ag)]; assumption)))
        ((refine step_append_lies _ (by rfl) _ _ _ (by rfl) w.heap.size 2 i0 _ 1 8 Tryd.underlying51 hi0 hz0 hz1 hz2 rfl (by omega) u8 (2 * 1) (([m3, m1, b3, b1, p3, p1] : List Int).take (2 * 1) |>.map (Value.int .i64)) (by rfl) ((hown'.alloc _).drew)
            ⟨W.heap.size, 0, none⟩ 2 2 [.int .i64 b3, .int .i64 b1] (by rfl) (by rfl) (World.news_of_block (cs := #[.int .i64 b3, .int .i64 b1]) (t := 2) (fr := (0, 0)) (heap_alloc_new W _)) (by simp [Value.oneCell'])
            (by omega) (by simp [maxLen]) (by omega) (by simp; omega) (W.heap.size + 1) (by simp) ?_; intro gg cap w1 hown1 hgrow hat hlt))
      clear cx cy
      have hB1 : Below w.heap.size w w1 := (hBW.alloc hBW.size _).drew.grown hgrow (by simp; omega) (own_base hown')
      have hR : w1.ownsRow w.heap.size 2 1 (.slice (some ⟨gg, 0, none⟩) 4 cap) (2 * 2) (([m3, m1, b3, b1, p3, p1] : List Int).take (2 * 2) |>.map (Value.int .i64)) := hown1
      have HR := Lib.hid (And.intro hR hB1)
      clear hown1 hR hgrow hat hown' ag hB1 hBW hB
      go_wp2
      go_roundw
      case rel => exact ⟨2, by omega, by go_num, HR.out⟩
      case measure => simp [intOf]
    · have ix : ∀ W, (Instr.index 75 (.agg (sidesV m0 m1 m2 m3 b0 b1 b2 b3 p0 p1 p2 p3)) (.int .i64 2)).run Tryd.prog W = .ok (.agg #[.int .i64 p0, .int .i64 p1, .int .i64 p2, .int .i64 p3]) W := fun _ => by kernel_rfl
      go_upto_region 5 with (fail)
      obtain ⟨W, hW⟩ : ∃ W, W = wr.alloc (Obj.cells #[.int .i64 p0, .int .i64 p1, .int .i64 p2, .int .i64 p3] 30) := ⟨_, rfl⟩
      have hblk : W.heap[wr.heap.size]? = some (.cells #[.int .i64 p0, .int .i64 p1, .int .i64 p2, .int .i64 p3] 30 (0, 0)) := by rw [hW]; exact heap_alloc_new _ _
      have hBW : Below w.heap.size w W := by rw [hW]; exact hB.alloc hs _
      have hown' : W.ownsRow w.heap.size 2 1 u8 (2 * 2) (([m3, m1, b3, b1, p3, p1] : List Int).take (2 * 2) |>.map (Value.int .i64)) := by rw [hW]; exact hown.alloc _
      have ag : u8.ownBlock ≠ some wr.heap.size := fun h => absurd (own_lt hown _ h) (by omega)
      have hsz : wr.heap.size < W.heap.size := lt_get hblk
      rw [← hW]
      have cx : W.cell? ⟨wr.heap.size, 3, none⟩ = some (.int .i64 p3) := (cell_of_row _ _ _ _ _ _ hblk).trans rfl
      have cy : W.cell? ⟨wr.heap.size, 1, none⟩ = some (.int .i64 p1) := (cell_of_row _ _ _ _ _ _ hblk).trans rfl
      clear hW hblk hown ix
      go_region_held3 (fun w' => w'.cell? ⟨wr.heap.size, 3, none⟩ = some (.int .i64 p3) ∧ w'.cell? ⟨wr.heap.size, 1, none⟩ = some (.int .i64 p1))
        (first
          | go_keep
          | (go_split_ands
             refine ⟨?_, ?_⟩
             · (rw [hgrow.cell_far _ (by simp; omega) (Ne.symm ag)]; assumption)
             · (rw [hgrow.cell_far _ (by simp; omega) (Ne.symm ag)]; assumption)))
        ((refine step_append_lies _ (by rfl) _ _ _ (by rfl) w.heap.size 2 i0 _ 1 8 Tryd.underlying51 hi0 hz0 hz1 hz2 rfl (by omega) u8 (2 * 2) (([m3, m1, b3, b1, p3, p1] : List Int).take (2 * 2) |>.map (Value.int .i64)) (by rfl) ((hown'.alloc _).drew)
            ⟨W.heap.size, 0, none⟩ 2 2 [.int .i64 p3, .int .i64 p1] (by rfl) (by rfl) (World.news_of_block (cs := #[.int .i64 p3, .int .i64 p1]) (t := 2) (fr := (0, 0)) (heap_alloc_new W _)) (by simp [Value.oneCell'])
            (by omega) (by simp [maxLen]) (by omega) (by simp; omega) (W.heap.size + 1) (by simp) ?_; intro gg cap w1 hown1 hgrow hat hlt))
      clear cx cy
      have hB1 : Below w.heap.size w w1 := (hBW.alloc hBW.size _).drew.grown hgrow (by simp; omega) (own_base hown')
      have hR : w1.ownsRow w.heap.size 2 1 (.slice (some ⟨gg, 0, none⟩) 6 cap) (2 * 3) (([m3, m1, b3, b1, p3, p1] : List Int).take (2 * 3) |>.map (Value.int .i64)) := hown1
      have HR := Lib.hid (And.intro hR hB1)
      clear hown1 hR hgrow hat hown' ag hB1 hBW hB
      go_wp2
      go_roundw
      case rel => exact ⟨3, by omega, by go_num, HR.out⟩
      case measure => simp [intOf]
    · obtain ⟨A, c, rfl, hrd⟩ := own_reads (k := .i64) (xs := [m3, m1, b3, b1, p3, p1]) hown
      go_wp2_with (go_at_call 40; refine (sumC [m3, m1, b3, b1, p3, p1] A c _ hrd).mono ?_; rintro e w' ⟨rfl, rfl⟩)
      go_ret2
      exact ⟨rfl, hB⟩
set_option maxHeartbeats 4000000 in
theorem both02 (m0 m1 m2 m3 b0 b1 b2 b3 p0 p1 p2 p3 : Int) (w : World) :
    Calls Tryd.prog 26 #[.agg (sidesV m0 m1 m2 m3 b0 b1 b2 b3 p0 p1 p2 p3), .int .i64 0, .int .i64 2] w fun e w' =>
      e = .returned (.tuple #[.int .i64 (sumV [m0, m2, b0, b2, p0, p2]), .bool (sumB [m0, m2, b0, b2, p0, p2])]) ∧ Below w.heap.size w w' := by
  obtain ⟨i0, hi0, hz0, hz1, hz2⟩ := info_parts info2
  go_enter Tryd.func26, Tryd.ntmps26
  go_wp2_with fail
  have HI : Hid (Below w.heap.size w (w.alloc (Obj.cells (sidesV m0 m1 m2 m3 b0 b1 b2 b3 p0 p1 p2 p3) 32))) := Lib.hid ((Below.refl _ _).alloc (Nat.le_refl _) _)
  go_loopw [8, 18] (fun v i wr => ∃ k : Nat, k ≤ 3 ∧ i = .int .i64 k ∧ wr.ownsRow w.heap.size 2 1 v (2 * k) (([m0, m2, b0, b2, p0, p2] : List Int).take (2 * k) |>.map (Value.int .i64)) ∧ Below w.heap.size w wr) (fun _ i _ => 3 - (intOf i).toNat)
  case atStart => exact ⟨0, by omega, rfl, World.ownsRow_nil _ _ _ _, HI.out⟩
  case round =>
    obtain ⟨k, hk, rfl, hown, hB⟩ := hrel
    clear HI
    have hs := hB.size
    obtain rfl | rfl | rfl | rfl : k = 0 ∨ k = 1 ∨ k = 2 ∨ k = 3 := by omega
    · have ix : ∀ W, (Instr.index 75 (.agg (sidesV m0 m1 m2 m3 b0 b1 b2 b3 p0 p1 p2 p3)) (.int .i64 0)).run Tryd.prog W = .ok (.agg #[.int .i64 m0, .int .i64 m1, .int .i64 m2, .int .i64 m3]) W := fun _ => by kernel_rfl
      go_upto_region 5 with (fail)
      obtain ⟨W, hW⟩ : ∃ W, W = wr.alloc (Obj.cells #[.int .i64 m0, .int .i64 m1, .int .i64 m2, .int .i64 m3] 30) := ⟨_, rfl⟩
      have hblk : W.heap[wr.heap.size]? = some (.cells #[.int .i64 m0, .int .i64 m1, .int .i64 m2, .int .i64 m3] 30 (0, 0)) := by rw [hW]; exact heap_alloc_new _ _
      have hBW : Below w.heap.size w W := by rw [hW]; exact hB.alloc hs _
      have hown' : W.ownsRow w.heap.size 2 1 u8 (2 * 0) (([m0, m2, b0, b2, p0, p2] : List Int).take (2 * 0) |>.map (Value.int .i64)) := by rw [hW]; exact hown.alloc _
      have ag : u8.ownBlock ≠ some wr.heap.size := fun h => absurd (own_lt hown _ h) (by omega)
      have hsz : wr.heap.size < W.heap.size := lt_get hblk
      rw [← hW]
      have cx : W.cell? ⟨wr.heap.size, 0, none⟩ = some (.int .i64 m0) := (cell_of_row _ _ _ _ _ _ hblk).trans rfl
      have cy : W.cell? ⟨wr.heap.size, 2, none⟩ = some (.int .i64 m2) := (cell_of_row _ _ _ _ _ _ hblk).trans rfl
      clear hW hblk hown ix
      go_region_held3 (fun w' => w'.cell? ⟨wr.heap.size, 0, none⟩ = some (.int .i64 m0) ∧ w'.cell? ⟨wr.heap.size, 2, none⟩ = some (.int .i64 m2))
        (first
          | go_keep
          | (go_split_ands
             refine ⟨?_, ?_⟩
             · (rw [hgrow.cell_far _ (by simp; omega) (Ne.symm ag)]; assumption)
             · (rw [hgrow.cell_far _ (by simp; omega) (Ne.symm ag)]; assumption)))
        ((refine step_append_lies _ (by rfl) _ _ _ (by rfl) w.heap.size 2 i0 _ 1 8 Tryd.underlying51 hi0 hz0 hz1 hz2 rfl (by omega) u8 (2 * 0) (([m0, m2, b0, b2, p0, p2] : List Int).take (2 * 0) |>.map (Value.int .i64)) (by rfl) ((hown'.alloc _).drew)
            ⟨W.heap.size, 0, none⟩ 2 2 [.int .i64 m0, .int .i64 m2] (by rfl) (by rfl) (World.news_of_block (cs := #[.int .i64 m0, .int .i64 m2]) (t := 2) (fr := (0, 0)) (heap_alloc_new W _)) (by simp [Value.oneCell'])
            (by omega) (by simp [maxLen]) (by omega) (by simp; omega) (W.heap.size + 1) (by simp) ?_; intro gg cap w1 hown1 hgrow hat hlt))
      clear cx cy
      have hB1 : Below w.heap.size w w1 := (hBW.alloc hBW.size _).drew.grown hgrow (by simp; omega) (own_base hown')
      have hR : w1.ownsRow w.heap.size 2 1 (.slice (some ⟨gg, 0, none⟩) 2 cap) (2 * 1) (([m0, m2, b0, b2, p0, p2] : List Int).take (2 * 1) |>.map (Value.int .i64)) := hown1
      have HR := Lib.hid (And.intro hR hB1)
      clear hown1 hR hgrow hat hown' ag hB1 hBW hB
      go_wp2
      go_roundw
      case rel => exact ⟨1, by omega, by go_num, HR.out⟩
      case measure => simp [intOf]
    · have ix : ∀ W, (Instr.index 75 (.agg (sidesV m0 m1 m2 m3 b0 b1 b2 b3 p0 p1 p2 p3)) (.int .i64 1)).run Tryd.prog W = .ok (.agg #[.int .i64 b0, .int .i64 b1, .int .i64 b2, .int .i64 b3]) W := fun _ => by kernel_rfl
      go_upto_region 5 with (fail)
      obtain ⟨W, hW⟩ : ∃ W, W = wr.alloc (Obj.cells #[.int .i64 b0, .int .i64 b1, .int .i64 b2, .int .i64 b3] 30) := ⟨_, rfl⟩
      have hblk : W.heap[wr.heap.size]? = some (.cells #[.int .i64 b0, .int .i64 b1, .int .i64 b2, .int .i64 b3] 30 (0, 0)) := by rw [hW]; exact heap_alloc_new _ _
      have hBW : Below w.heap.size w W := by rw [hW]; exact hB.alloc hs _
      have hown' : W.ownsRow w.heap.size 2 1 u8 (2 * 1) (([m0, m2, b0, b2, p0, p2] : List Int).take (2 * 1) |>.map (Value.int .i64)) := by rw [hW]; exact hown.alloc _
      have ag : u8.ownBlock ≠ some wr.heap.size := fun h => absurd (own_lt hown _ h) (by omega)
      have hsz : wr.heap.size < W.heap.size := lt_get hblk
      rw [← hW]
      have cx : W.cell? ⟨wr.heap.size, 0, none⟩ = some (.int .i64 b0) := (cell_of_row _ _ _ _ _ _ hblk).trans rfl
      have cy : W.cell? ⟨wr.heap.size, 2, none⟩ = some (.int .i64 b2) := (cell_of_row _ _ _ _ _ _ hblk).trans rfl
      clear hW hblk hown ix
      go_region_held3 (fun w' => w'.cell? ⟨wr.heap.size, 0, none⟩ = some (.int .i64 b0) ∧ w'.cell? ⟨wr.heap.size, 2, none⟩ = some (.int .i64 b2))
        (first
          | go_keep
          | (go_split_ands
             refine ⟨?_, ?_⟩
             · (rw [hgrow.cell_far _ (by simp; omega) (Ne.symm ag)]; assumption)
             · (rw [hgrow.cell_far _ (by simp; omega) (Ne.symm ag)]; assumption)))
        ((refine step_append_lies _ (by rfl) _ _ _ (by rfl) w.heap.size 2 i0 _ 1 8 Tryd.underlying51 hi0 hz0 hz1 hz2 rfl (by omega) u8 (2 * 1) (([m0, m2, b0, b2, p0, p2] : List Int).take (2 * 1) |>.map (Value.int .i64)) (by rfl) ((hown'.alloc _).drew)
            ⟨W.heap.size, 0, none⟩ 2 2 [.int .i64 b0, .int .i64 b2] (by rfl) (by rfl) (World.news_of_block (cs := #[.int .i64 b0, .int .i64 b2]) (t := 2) (fr := (0, 0)) (heap_alloc_new W _)) (by simp [Value.oneCell'])
            (by omega) (by simp [maxLen]) (by omega) (by simp; omega) (W.heap.size + 1) (by simp) ?_; intro gg cap w1 hown1 hgrow hat hlt))
      clear cx cy
      have hB1 : Below w.heap.size w w1 := (hBW.alloc hBW.size _).drew.grown hgrow (by simp; omega) (own_base hown')
      have hR : w1.ownsRow w.heap.size 2 1 (.slice (some ⟨gg, 0, none⟩) 4 cap) (2 * 2) (([m0, m2, b0, b2, p0, p2] : List Int).take (2 * 2) |>.map (Value.int .i64)) := hown1
      have HR := Lib.hid (And.intro hR hB1)
      clear hown1 hR hgrow hat hown' ag hB1 hBW hB
      go_wp2
      go_roundw
      case rel => exact ⟨2, by omega, by go_num, HR.out⟩
      case measure => simp [intOf]
    · have ix : ∀ W, (Instr.index 75 (.agg (sidesV m0 m1 m2 m3 b0 b1 b2 b3 p0 p1 p2 p3)) (.int .i64 2)).run Tryd.prog W = .ok (.agg #[.int .i64 p0, .int .i64 p1, .int .i64 p2, .int .i64 p3]) W := fun _ => by kernel_rfl
      go_upto_region 5 with (fail)
      obtain ⟨W, hW⟩ : ∃ W, W = wr.alloc (Obj.cells #[.int .i64 p0, .int .i64 p1, .int .i64 p2, .int .i64 p3] 30) := ⟨_, rfl⟩
      have hblk : W.heap[wr.heap.size]? = some (.cells #[.int .i64 p0, .int .i64 p1, .int .i64 p2, .int .i64 p3] 30 (0, 0)) := by rw [hW]; exact heap_alloc_new _ _
      have hBW : Below w.heap.size w W := by rw [hW]; exact hB.alloc hs _
      have hown' : W.ownsRow w.heap.size 2 1 u8 (2 * 2) (([m0, m2, b0, b2, p0, p2] : List Int).take (2 * 2) |>.map (Value.int .i64)) := by rw [hW]; exact hown.alloc _
      have ag : u8.ownBlock ≠ some wr.heap.size := fun h => absurd (own_lt hown _ h) (by omega)
      have hsz : wr.heap.size < W.heap.size := lt_get hblk
      rw [← hW]
      have cx : W.cell? ⟨wr.heap.size, 0, none⟩ = some (.int .i64 p0) := (cell_of_row _ _ _ _ _ _ hblk).trans rfl
      have cy : W.cell? ⟨wr.heap.size, 2, none⟩ = some (.int .i64 p2) := (cell_of_row _ _ _ _ _ _ hblk).trans rfl
      clear hW hblk hown ix
      go_region_held3 (fun w' => w'.cell? ⟨wr.heap.size, 0, none⟩ = some (.int .i64 p0) ∧ w'.cell? ⟨wr.heap.size, 2, none⟩ = some (.int .i64 p2))
        (first
          | go_keep
          | (go_split_ands
             refine ⟨?_, ?_⟩
             · (rw [hgrow.cell_far _ (by simp; omega) (Ne.symm ag)]; assumption)
             · (rw [hgrow.cell_far _ (by simp; omega) (Ne.symm ag)]; assumption)))
        ((refine step_append_lies _ (by rfl) _ _ _ (by rfl) w.heap.size 2 i0 _ 1 8 Tryd.underlying51 hi0 hz0 hz1 hz2 rfl (by omega) u8 (2 * 2) (([m0, m2, b0, b2, p0, p2] : List Int).take (2 * 2) |>.map (Value.int .i64)) (by rfl) ((hown'.alloc _).drew)
            ⟨W.heap.size, 0, none⟩ 2 2 [.int .i64 p0, .int .i64 p2] (by rfl) (by rfl) (World.news_of_block (cs := #[.int .i64 p0, .int .i64 p2]) (t := 2) (fr := (0, 0)) (heap_alloc_new W _)) (by simp [Value.oneCell'])
            (by omega) (by simp [maxLen]) (by omega) (by simp; omega) (W.heap.size + 1) (by simp) ?_; intro gg cap w1 hown1 hgrow hat hlt))
      clear cx cy
      have hB1 : Below w.heap.size w w1 := (hBW.alloc hBW.size _).drew.grown hgrow (by simp; omega) (own_base hown')
      have hR : w1.ownsRow w.heap.size 2 1 (.slice (some ⟨gg, 0, none⟩) 6 cap) (2 * 3) (([m0, m2, b0, b2, p0, p2] : List Int).take (2 * 3) |>.map (Value.int .i64)) := hown1
      have HR := Lib.hid (And.intro hR hB1)
      clear hown1 hR hgrow hat hown' ag hB1 hBW hB
      go_wp2
      go_roundw
      case rel => exact ⟨3, by omega, by go_num, HR.out⟩
      case measure => simp [intOf]
    · obtain ⟨A, c, rfl, hrd⟩ := own_reads (k := .i64) (xs := [m0, m2, b0, b2, p0, p2]) hown
      go_wp2_with (go_at_call 40; refine (sumC [m0, m2, b0, b2, p0, p2] A c _ hrd).mono ?_; rintro e w' ⟨rfl, rfl⟩)
      go_ret2
      exact ⟨rfl, hB⟩
end Go.Proofs
