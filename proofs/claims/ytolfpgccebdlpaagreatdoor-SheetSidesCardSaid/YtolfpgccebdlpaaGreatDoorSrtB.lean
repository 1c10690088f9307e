/- Contracts of functions of the given program, proved by walking their text (module SrtB); no condition beside those that each theorem states. -/
import Derived.Lib.Hide
import Derived.StillTailTactics
import Derived.Deep.MidRow
import Derived.Test.YtolfpgccebdlpaaGreatDoorWWords
import Derived.Test.YtolfpgccebdlpaaGreatDoorProg
import Derived.WalkKit
import Derived.WalkLawsBesides
import Derived.WalkSpells
import Derived.Below
import Derived.Deep.Draws
import Derived.Deep.AppendLies
import Derived.Maps.AppendAt
import Derived.OwnWalk
import Derived.Laws.BytesArg
import Derived.Laws.MakeOwn
import Derived.Laws.OwnMore
import Derived.Deep.OwnRows
import Derived.Laws.Slices
import Derived.KernelRfl
import Derived.RowKit3
import Derived.Deep.LoopGhost
import Derived.Deep.QuietTactic
import Derived.BigQuiet
import Derived.WideLaws
import Derived.Deep.DeepCutAuto
import Derived.Deep.CutBlock
import Derived.Deep.RegionHeld3
import Derived.Laws.Rows
import Derived.Laws.Tables
import Derived.RowKit
import Derived.Outline
import Derived.Test.YtolfpgccebdlpaaGreatDoorVaP
import Derived.Test.YtolfpgccebdlpaaGreatDoorSh
import Derived.Test.YtolfpgccebdlpaaGreatDoorShX
import Derived.Shelf.Strings.SlTrimAscii
set_option linter.unusedVariables false
set_option linter.unusedSimpArgs false
namespace Go.Proofs
open Go.RowKit
set_option maxRecDepth 100000 in
set_option maxHeartbeats 4000000 in
theorem sortsC (w : World) :
    Calls Tryz.prog 147 #[] w fun e w' => ∃ b1 b2 b3 b4, e = .returned (.agg (SA 4 b1 b2 b3 b4)) ∧ SortWords w w' b1 b2 b3 b4 ∧ Below w.heap.size w w' := by
  have hz := zero95
  go_enter Tryz.func147, Tryz.ntmps147
  go_upto_region 4 with (fail)
  go_cut [0, 1, 4] (fun v0 v1 v4 wc => ∃ (g0 g1 g4 b1 b2 b3 b4 : Nat), v0 = .pointer (some ⟨g0, 0, none⟩) ∧ v1 = .pointer (some ⟨g1, 0, none⟩) ∧ v4 = .pointer (some ⟨g4, 0, none⟩) ∧ SortsMid w wc g0 g1 g4 b1 b2 b3 b4)
  case first =>
    go_wp2_with (first
      | (refine wpList_build_to rfl 191 _ rfl (built95 _ _ _ _) rfl ?_)
      | (refine wpList_store_row rfl 191 _ _ rfl _ _ rfl rfl 191 z95 (heap_alloc_at _ _ ?_) (info95.trans (congrArg some (size_arrOf0 _ _ _ _).symm)) (size_z95.trans (size_arrOf0 _ _ _ _).symm) (all_arrOf0 _ _ _ _) ?_; · simp))
    go_frame
    go_meet
    case rel => exact ⟨_, _, _, _, _, _, _, rfl, rfl, rfl, sortsMid_new w⟩
  case rest =>
    obtain ⟨g0, g1, g4, b1, b2, b3, b4, rfl, rfl, rfl, hm⟩ := hcut
    have cc : wc.cell? ⟨g4, 20, none⟩ = some S0 ∧ wc.cell? ⟨g4, 30, none⟩ = some S0 ∧ wc.frozen? ⟨g4, 20, none⟩ = false ∧ wc.frozen? ⟨g4, 30, none⟩ = false :=
      ⟨(cell_of_row wc g4 20 _ _ _ hm.h4).trans (by kernel_rfl), (cell_of_row wc g4 30 _ _ _ hm.h4).trans (by kernel_rfl), frozen_of_row wc g4 20 _ _ hm.h4, frozen_of_row wc g4 30 _ _ hm.h4⟩
    obtain ⟨c40, c41, f40, f41⟩ := cc
    have hwne : b1 ≠ g4 ∧ b2 ≠ g4 ∧ b3 ≠ g4 ∧ b4 ≠ g4 := ⟨by have := hm.o1; omega, by have := hm.o2; omega, by have := hm.o3; omega, by have := hm.o4; omega⟩
    clear hz
    go_upto_region 6 with (fail)
    go_cut [0, 1, 4, 5, 6, 7] (fun v0 v1 v4 v5 v6 v7 wd => ∃ (g5 g6 g7 : Nat), v0 = .pointer (some ⟨g0, 0, none⟩) ∧ v1 = .pointer (some ⟨g1, 0, none⟩) ∧ v4 = .pointer (some ⟨g4, 0, none⟩) ∧ v5 = .pointer (some ⟨g5, 0, none⟩) ∧ v6 = .pointer (some ⟨g6, 0, none⟩) ∧ v7 = .pointer (some ⟨g7, 0, none⟩) ∧ SortsMid2 w wd g0 g1 g4 g5 g6 g7 (SA 0 b1 b2 b3 b4) b1 b2 b3 b4)
    case first =>
      go_wp2_with (first | (go_at_call 181; (with_reducible refine (sides_margin _).mono ?_); rintro e w1 ⟨rfl, hb1⟩) | (go_at_call 181; (with_reducible refine (sides_padding _).mono ?_); rintro e w2 ⟨rfl, hb2⟩) | (go_at_call 181; (with_reducible refine (sides_border _).mono ?_); rintro e w3 ⟨rfl, hb3⟩))
      go_meet
      case rel => exact ⟨_, _, _, rfl, rfl, rfl, rfl, rfl, rfl, sortsMid2_new hm hb1 hb2 hb3⟩
    case rest =>
      obtain ⟨g5, g6, g7, rfl, rfl, rfl, rfl, rfl, rfl, hm2⟩ := hcut
      clear c40 c41 f40 f41 hm
      go_wp2_with fail
      go_loopw [51] (fun i wr => ∃ k : Nat, k ≤ 4 ∧ i = .int .i64 k ∧ SortsMid2 w wr g0 g1 g4 g5 g6 g7 (SA k b1 b2 b3 b4) b1 b2 b3 b4) (fun i _ => 4 - (intOf i).toNat)
      case atStart => exact ⟨0, by omega, rfl, hm2⟩
      case round =>
        obtain ⟨k, hk, rfl, hr⟩ := hrel
        by_cases hlt : k < 4
        · have zA := size_SA k b1 b2 b3 b4 hk
          have HWN := Lib.hid hwne
          clear hwne hm2
          go_upto_region 10 with (fail)
          go_cut [] (fun wx => SortsMid2 w wx g0 g1 g4 g5 g6 g7 (set10 (SA k b1 b2 b3 b4) ((4 + k) * 10) (.string (nmAt nmMargin k)) TT TT FF TT FF FF (.slice none 0 0) (.int .i64 2) (.int .i64 0)) b1 b2 b3 b4)
          case first =>
            have c5 := wordAt hr.h5 k hlt
            have c1 : wr.cell? ⟨g1, 0, none⟩ = some (.int .i64 2) := (cell_of_row wr g1 0 _ _ _ hr.h1).trans rfl
            have c2 : wr.cell? ⟨g1, 1, none⟩ = some (.int .i64 0) := (cell_of_row wr g1 1 _ _ _ hr.h1).trans rfl
            obtain ⟨y4_0, e4_0⟩ := cell_ex hr.h4 ((4 + k) * 10) (by rw [zA]; omega)
            have f4_0 := frozen_of_row wr g4 ((4 + k) * 10) _ _ hr.h4
            obtain ⟨y4_1, e4_1⟩ := cell_ex hr.h4 ((4 + k) * 10 + 1) (by rw [zA]; omega)
            have f4_1 := frozen_of_row wr g4 ((4 + k) * 10 + 1) _ _ hr.h4
            obtain ⟨y4_2, e4_2⟩ := cell_ex hr.h4 ((4 + k) * 10 + 2) (by rw [zA]; omega)
            have f4_2 := frozen_of_row wr g4 ((4 + k) * 10 + 2) _ _ hr.h4
            obtain ⟨y4_3, e4_3⟩ := cell_ex hr.h4 ((4 + k) * 10 + 3) (by rw [zA]; omega)
            have f4_3 := frozen_of_row wr g4 ((4 + k) * 10 + 3) _ _ hr.h4
            obtain ⟨y4_4, e4_4⟩ := cell_ex hr.h4 ((4 + k) * 10 + 4) (by rw [zA]; omega)
            have f4_4 := frozen_of_row wr g4 ((4 + k) * 10 + 4) _ _ hr.h4
            obtain ⟨y4_5, e4_5⟩ := cell_ex hr.h4 ((4 + k) * 10 + 5) (by rw [zA]; omega)
            have f4_5 := frozen_of_row wr g4 ((4 + k) * 10 + 5) _ _ hr.h4
            obtain ⟨y4_6, e4_6⟩ := cell_ex hr.h4 ((4 + k) * 10 + 6) (by rw [zA]; omega)
            have f4_6 := frozen_of_row wr g4 ((4 + k) * 10 + 6) _ _ hr.h4
            obtain ⟨y4_7, e4_7⟩ := cell_ex hr.h4 ((4 + k) * 10 + 7) (by rw [zA]; omega)
            have f4_7 := frozen_of_row wr g4 ((4 + k) * 10 + 7) _ _ hr.h4
            obtain ⟨y4_8, e4_8⟩ := cell_ex hr.h4 ((4 + k) * 10 + 8) (by rw [zA]; omega)
            have f4_8 := frozen_of_row wr g4 ((4 + k) * 10 + 8) _ _ hr.h4
            obtain ⟨y4_9, e4_9⟩ := cell_ex hr.h4 ((4 + k) * 10 + 9) (by rw [zA]; omega)
            have f4_9 := frozen_of_row wr g4 ((4 + k) * 10 + 9) _ _ hr.h4
            clear zA
            go_region
            go_wp2
            go_meet
            case rel => exact hr.put HWN.out _ _ _ _ _ _ _ _ _ _ _
          case rest =>
            have hx := hcut
            have zB : (set10 (SA k b1 b2 b3 b4) ((4 + k) * 10) (.string (nmAt nmMargin k)) TT TT FF TT FF FF (.slice none 0 0) (.int .i64 2) (.int .i64 0)).size = 270 := (size_set10 _ _ _ _ _ _ _ _ _ _ _ _).trans zA
            clear zA
            go_upto_region 11 with (fail)
            go_cut [] (fun wy => SortsMid2 w wy g0 g1 g4 g5 g6 g7 (set10 (set10 (SA k b1 b2 b3 b4) ((4 + k) * 10) (.string (nmAt nmMargin k)) TT TT FF TT FF FF (.slice none 0 0) (.int .i64 2) (.int .i64 0)) ((8 + k) * 10) (.string (nmAt nmPadding k)) FF TT FF FF FF FF (.slice none 0 0) (.int .i64 2) (.int .i64 0)) b1 b2 b3 b4)
            case first =>
              have c5 := wordAt hx.h6 k hlt
              have c1 : wc.cell? ⟨g1, 0, none⟩ = some (.int .i64 2) := (cell_of_row wc g1 0 _ _ _ hx.h1).trans rfl
              have c2 : wc.cell? ⟨g1, 1, none⟩ = some (.int .i64 0) := (cell_of_row wc g1 1 _ _ _ hx.h1).trans rfl
              obtain ⟨y8_0, e8_0⟩ := cell_ex hx.h4 ((8 + k) * 10) (by rw [zB]; omega)
              have f8_0 := frozen_of_row wc g4 ((8 + k) * 10) _ _ hx.h4
              obtain ⟨y8_1, e8_1⟩ := cell_ex hx.h4 ((8 + k) * 10 + 1) (by rw [zB]; omega)
              have f8_1 := frozen_of_row wc g4 ((8 + k) * 10 + 1) _ _ hx.h4
              obtain ⟨y8_2, e8_2⟩ := cell_ex hx.h4 ((8 + k) * 10 + 2) (by rw [zB]; omega)
              have f8_2 := frozen_of_row wc g4 ((8 + k) * 10 + 2) _ _ hx.h4
              obtain ⟨y8_3, e8_3⟩ := cell_ex hx.h4 ((8 + k) * 10 + 3) (by rw [zB]; omega)
              have f8_3 := frozen_of_row wc g4 ((8 + k) * 10 + 3) _ _ hx.h4
              obtain ⟨y8_4, e8_4⟩ := cell_ex hx.h4 ((8 + k) * 10 + 4) (by rw [zB]; omega)
              have f8_4 := frozen_of_row wc g4 ((8 + k) * 10 + 4) _ _ hx.h4
              obtain ⟨y8_5, e8_5⟩ := cell_ex hx.h4 ((8 + k) * 10 + 5) (by rw [zB]; omega)
              have f8_5 := frozen_of_row wc g4 ((8 + k) * 10 + 5) _ _ hx.h4
              obtain ⟨y8_6, e8_6⟩ := cell_ex hx.h4 ((8 + k) * 10 + 6) (by rw [zB]; omega)
              have f8_6 := frozen_of_row wc g4 ((8 + k) * 10 + 6) _ _ hx.h4
              obtain ⟨y8_7, e8_7⟩ := cell_ex hx.h4 ((8 + k) * 10 + 7) (by rw [zB]; omega)
              have f8_7 := frozen_of_row wc g4 ((8 + k) * 10 + 7) _ _ hx.h4
              obtain ⟨y8_8, e8_8⟩ := cell_ex hx.h4 ((8 + k) * 10 + 8) (by rw [zB]; omega)
              have f8_8 := frozen_of_row wc g4 ((8 + k) * 10 + 8) _ _ hx.h4
              obtain ⟨y8_9, e8_9⟩ := cell_ex hx.h4 ((8 + k) * 10 + 9) (by rw [zB]; omega)
              have f8_9 := frozen_of_row wc g4 ((8 + k) * 10 + 9) _ _ hx.h4
              clear zB
              go_region
              go_wp2
              go_meet
              case rel => exact hx.put HWN.out _ _ _ _ _ _ _ _ _ _ _
            case rest =>
              have hy := hcut
              have zC : (set10 (set10 (SA k b1 b2 b3 b4) ((4 + k) * 10) (.string (nmAt nmMargin k)) TT TT FF TT FF FF (.slice none 0 0) (.int .i64 2) (.int .i64 0)) ((8 + k) * 10) (.string (nmAt nmPadding k)) FF TT FF FF FF FF (.slice none 0 0) (.int .i64 2) (.int .i64 0)).size = 270 := (size_set10 _ _ _ _ _ _ _ _ _ _ _ _).trans zB
              clear zB
              go_upto_region 12 with (fail)
              have c5 := wordAt hy.h7 k hlt
              have c1 : wc.cell? ⟨g1, 0, none⟩ = some (.int .i64 2) := (cell_of_row wc g1 0 _ _ _ hy.h1).trans rfl
              have c2 : wc.cell? ⟨g1, 1, none⟩ = some (.int .i64 0) := (cell_of_row wc g1 1 _ _ _ hy.h1).trans rfl
              obtain ⟨y12_0, e12_0⟩ := cell_ex hy.h4 ((12 + k) * 10) (by rw [zC]; omega)
              have f12_0 := frozen_of_row wc g4 ((12 + k) * 10) _ _ hy.h4
              obtain ⟨y12_1, e12_1⟩ := cell_ex hy.h4 ((12 + k) * 10 + 1) (by rw [zC]; omega)
              have f12_1 := frozen_of_row wc g4 ((12 + k) * 10 + 1) _ _ hy.h4
              obtain ⟨y12_2, e12_2⟩ := cell_ex hy.h4 ((12 + k) * 10 + 2) (by rw [zC]; omega)
              have f12_2 := frozen_of_row wc g4 ((12 + k) * 10 + 2) _ _ hy.h4
              obtain ⟨y12_3, e12_3⟩ := cell_ex hy.h4 ((12 + k) * 10 + 3) (by rw [zC]; omega)
              have f12_3 := frozen_of_row wc g4 ((12 + k) * 10 + 3) _ _ hy.h4
              obtain ⟨y12_4, e12_4⟩ := cell_ex hy.h4 ((12 + k) * 10 + 4) (by rw [zC]; omega)
              have f12_4 := frozen_of_row wc g4 ((12 + k) * 10 + 4) _ _ hy.h4
              obtain ⟨y12_5, e12_5⟩ := cell_ex hy.h4 ((12 + k) * 10 + 5) (by rw [zC]; omega)
              have f12_5 := frozen_of_row wc g4 ((12 + k) * 10 + 5) _ _ hy.h4
              obtain ⟨y12_6, e12_6⟩ := cell_ex hy.h4 ((12 + k) * 10 + 6) (by rw [zC]; omega)
              have f12_6 := frozen_of_row wc g4 ((12 + k) * 10 + 6) _ _ hy.h4
              obtain ⟨y12_7, e12_7⟩ := cell_ex hy.h4 ((12 + k) * 10 + 7) (by rw [zC]; omega)
              have f12_7 := frozen_of_row wc g4 ((12 + k) * 10 + 7) _ _ hy.h4
              obtain ⟨y12_8, e12_8⟩ := cell_ex hy.h4 ((12 + k) * 10 + 8) (by rw [zC]; omega)
              have f12_8 := frozen_of_row wc g4 ((12 + k) * 10 + 8) _ _ hy.h4
              obtain ⟨y12_9, e12_9⟩ := cell_ex hy.h4 ((12 + k) * 10 + 9) (by rw [zC]; omega)
              have f12_9 := frozen_of_row wc g4 ((12 + k) * 10 + 9) _ _ hy.h4
              have HY := Lib.hid hy
              clear hy hx hr hcut zC
              go_region
              go_wp2
              go_roundw
              case rel =>
                have hz := HY.out.put HWN.out ((12 + k) * 10) (.string (nmAt nmBorder k)) FF TT FF FF FF FF (.slice none 0 0) (.int .i64 2) (.int .i64 0)
                rw [SA_step k b1 b2 b3 b4 hlt] at hz
                exact ⟨k + 1, by omega, by go_num, hz⟩
              case measure => simp [intOf]; omega
        · obtain rfl : k = 4 := by omega
          clear hm2
          go_wp2_with (first | (refine wpList_load_row rfl 191 _ rfl g4 rfl 191 _ _ _ hr.h4 Tryz.underlying191 rfl (info95.trans (congrArg some (size_SA 4 b1 b2 b3 b4 (Nat.le_refl 4)).symm)) ?_) | (refine wpList_store_row rfl 191 _ _ rfl g0 (SA 4 b1 b2 b3 b4) rfl rfl 191 z95 hr.h0 (info95.trans (congrArg some (size_SA 4 b1 b2 b3 b4 (Nat.le_refl 4)).symm)) (size_z95.trans (size_SA 4 b1 b2 b3 b4 (Nat.le_refl 4)).symm) (all_SA4 b1 b2 b3 b4) ?_))
          refine bodyPost_ret (v := .agg (SA 4 b1 b2 b3 b4)) (results_cell_row Tryz.results147 _ _ g0 191 _ _ _ rfl (setRow_heap wr g0 z95 _ 191 _ hr.h0) Tryz.underlying191 rfl (info95.trans (congrArg some (size_SA 4 b1 b2 b3 b4 (Nat.le_refl 4)).symm))) rfl ?_
          exact ⟨b1, b2, b3, b4, rfl, hr.words.setRow hr.q _, below_setRow hr.below g0 _ hr.n0⟩
end Go.Proofs
set_option linter.unusedVariables false
set_option linter.unusedSimpArgs false
namespace Go.Proofs
open Go.RowKit
structure SortRec where
  name : ByteArray
  auto : Bool
  length : Bool
  part : Bool
  below : Bool
  color : Bool
  number : Bool
  wa : Option Addr
  wn : Nat
  k : Int
  n : Int
def recs (b1 b2 b3 b4 : Nat) : List SortRec := [⟨{ data := #[] }, false, false, false, false, false, false, none, 0, 0, 0⟩,
  ⟨{ data := #[100, 105, 115, 112, 108, 97, 121] }, false, false, false, false, false, false, some ⟨b1, 0, none⟩, 4, 5, 1⟩,
  ⟨{ data := #[119, 105, 100, 116, 104] }, true, true, true, false, false, false, none, 0, 1, 0⟩,
  ⟨{ data := #[104, 101, 105, 103, 104, 116] }, true, true, true, false, false, false, none, 0, 1, 0⟩,
  ⟨{ data := #[109, 97, 114, 103, 105, 110, 45, 116, 111, 112] }, true, true, false, true, false, false, none, 0, 2, 0⟩,
  ⟨{ data := #[109, 97, 114, 103, 105, 110, 45, 114, 105, 103, 104, 116] }, true, true, false, true, false, false, none, 0, 2, 0⟩,
  ⟨{ data := #[109, 97, 114, 103, 105, 110, 45, 98, 111, 116, 116, 111, 109] }, true, true, false, true, false, false, none, 0, 2, 0⟩,
  ⟨{ data := #[109, 97, 114, 103, 105, 110, 45, 108, 101, 102, 116] }, true, true, false, true, false, false, none, 0, 2, 0⟩,
  ⟨{ data := #[112, 97, 100, 100, 105, 110, 103, 45, 116, 111, 112] }, false, true, false, false, false, false, none, 0, 2, 0⟩,
  ⟨{ data := #[112, 97, 100, 100, 105, 110, 103, 45, 114, 105, 103, 104, 116] }, false, true, false, false, false, false, none, 0, 2, 0⟩,
  ⟨{ data := #[112, 97, 100, 100, 105, 110, 103, 45, 98, 111, 116, 116, 111, 109] }, false, true, false, false, false, false, none, 0, 2, 0⟩,
  ⟨{ data := #[112, 97, 100, 100, 105, 110, 103, 45, 108, 101, 102, 116] }, false, true, false, false, false, false, none, 0, 2, 0⟩,
  ⟨{ data := #[98, 111, 114, 100, 101, 114, 45, 116, 111, 112, 45, 119, 105, 100, 116, 104] }, false, true, false, false, false, false, none, 0, 2, 0⟩,
  ⟨{ data := #[98, 111, 114, 100, 101, 114, 45, 114, 105, 103, 104, 116, 45, 119, 105, 100, 116, 104] }, false, true, false, false, false, false, none, 0, 2, 0⟩,
  ⟨{ data := #[98, 111, 114, 100, 101, 114, 45, 98, 111, 116, 116, 111, 109, 45, 119, 105, 100, 116, 104] }, false, true, false, false, false, false, none, 0, 2, 0⟩,
  ⟨{ data := #[98, 111, 114, 100, 101, 114, 45, 108, 101, 102, 116, 45, 119, 105, 100, 116, 104] }, false, true, false, false, false, false, none, 0, 2, 0⟩,
  ⟨{ data := #[99, 111, 108, 111, 114] }, false, false, false, false, true, false, none, 0, 4, 0⟩,
  ⟨{ data := #[98, 97, 99, 107, 103, 114, 111, 117, 110, 100, 45, 99, 111, 108, 111, 114] }, false, false, false, false, true, false, none, 0, 4, 16777215⟩,
  ⟨{ data := #[102, 111, 110, 116, 45, 115, 105, 122, 101] }, false, true, false, false, false, false, none, 0, 2, 1024⟩,
  ⟨{ data := #[116, 101, 120, 116, 45, 97, 108, 105, 103, 110] }, false, false, false, false, false, false, some ⟨b2, 0, none⟩, 3, 5, 0⟩,
  ⟨{ data := #[102, 108, 101, 120, 45, 103, 114, 111, 119] }, false, false, false, false, false, true, none, 0, 6, 0⟩,
  ⟨{ data := #[102, 108, 101, 120, 45, 115, 104, 114, 105, 110, 107] }, false, false, false, false, false, true, none, 0, 6, 64⟩,
  ⟨{ data := #[102, 108, 101, 120, 45, 100, 105, 114, 101, 99, 116, 105, 111, 110] }, false, false, false, false, false, false, some ⟨b3, 0, none⟩, 2, 5, 0⟩,
  ⟨{ data := #[106, 117, 115, 116, 105, 102, 121, 45, 99, 111, 110, 116, 101, 110, 116] }, false, false, false, false, false, false, some ⟨b4, 0, none⟩, 4, 5, 0⟩,
  ⟨{ data := #[111, 114, 100, 101, 114] }, false, false, false, true, false, true, none, 0, 6, 0⟩,
  ⟨{ data := #[108, 101, 102, 116] }, false, true, false, true, false, false, none, 0, 2, 0⟩,
  ⟨{ data := #[116, 111, 112] }, false, true, false, true, false, false, none, 0, 2, 0⟩]
def recOf (p b1 b2 b3 b4 : Nat) : SortRec := (recs b1 b2 b3 b4).getD p ⟨{ data := #[] }, false, false, false, false, false, false, none, 0, 0, 0⟩
abbrev recV (r : SortRec) : Value := .agg #[.string r.name, .bool r.auto, .bool r.length, .bool r.part, .bool r.below, .bool r.color, .bool r.number, .slice r.wa r.wn r.wn, .int .i64 r.k, .int .i64 r.n]
theorem cases26 {p : Nat} (h1 : 1 ≤ p) (h2 : p ≤ 26) : p = 1 ∨ p = 2 ∨ p = 3 ∨ p = 4 ∨ p = 5 ∨ p = 6 ∨ p = 7 ∨ p = 8 ∨ p = 9 ∨ p = 10 ∨ p = 11 ∨ p = 12 ∨ p = 13 ∨ p = 14 ∨ p = 15 ∨ p = 16 ∨ p = 17 ∨ p = 18 ∨ p = 19 ∨ p = 20 ∨ p = 21 ∨ p = 22 ∨ p = 23 ∨ p = 24 ∨ p = 25 ∨ p = 26 := by omega
theorem index_SA (p : Nat) (h1 : 1 ≤ p) (h2 : p ≤ 26) : ∀ (b1 b2 b3 b4 : Nat) (w : World), (Instr.index 191 (.agg (SA 4 b1 b2 b3 b4)) (.int .i64 (p : Int))).run Tryz.prog w = .ok (recV (recOf p b1 b2 b3 b4)) w := by
  intro b1 b2 b3 b4 w
  obtain rfl | rfl | rfl | rfl | rfl | rfl | rfl | rfl | rfl | rfl | rfl | rfl | rfl | rfl | rfl | rfl | rfl | rfl | rfl | rfl | rfl | rfl | rfl | rfl | rfl | rfl := cases26 h1 h2
  all_goals kernel_rfl
theorem bcell {W w1 : World} (hb : Below W.heap.size W w1) : (∀ b o, b < W.heap.size → w1.cell? ⟨b, o, none⟩ = W.cell? ⟨b, o, none⟩) ∧ (∀ b o, b < W.heap.size → w1.frozen? ⟨b, o, none⟩ = W.frozen? ⟨b, o, none⟩) :=
  ⟨fun b o h => hb.cell (p := ⟨b, o, none⟩) h, fun b o h => hb.frozen (p := ⟨b, o, none⟩) h⟩
theorem SortWords.far {w W : World} {b1 b2 b3 b4 g : Nat} (h : SortWords w W b1 b2 b3 b4) (q : b1 ≠ g ∧ b2 ≠ g ∧ b3 ≠ g ∧ b4 ≠ g) (o : Nat) (v : Value) : SortWords w (W.setCell ⟨g, o, none⟩ v) b1 b2 b3 b4 :=
  ⟨(heap_setCell_other W ⟨g, o, none⟩ b1 v q.1).trans h.r1, (heap_setCell_other W ⟨g, o, none⟩ b2 v q.2.1).trans h.r2, (heap_setCell_other W ⟨g, o, none⟩ b3 v q.2.2.1).trans h.r3, (heap_setCell_other W ⟨g, o, none⟩ b4 v q.2.2.2).trans h.r4, h.m1, h.m2, h.m3, h.m4⟩
theorem SortWords.low {w w0 W : World} {b1 b2 b3 b4 : Nat} (h : SortWords w W b1 b2 b3 b4) (q : w0.heap.size ≤ w.heap.size) : SortWords w0 W b1 b2 b3 b4 :=
  ⟨h.r1, h.r2, h.r3, h.r4, Nat.le_trans q h.m1, Nat.le_trans q h.m2, Nat.le_trans q h.m3, Nat.le_trans q h.m4⟩
set_option maxHeartbeats 1000000 in
theorem ofC (p : Nat) (h1 : 1 ≤ p) (h2 : p ≤ 26) (w : World) :
    Calls Tryz.prog 116 #[.int .i64 (p : Int)] w fun e w' => ∃ b1 b2 b3 b4, e = .returned (.tuple #[recV (recOf p b1 b2 b3 b4), .bool true]) ∧ SortWords w w' b1 b2 b3 b4 ∧ Below w.heap.size w w' := by
  have hx := index_SA p h1 h2
  go_enter Tryz.func116, Tryz.ntmps116
  go_wp2_with (go_at_call 147; refine (sortsC _).mono ?_; rintro e w' ⟨b1, b2, b3, b4, rfl, hw, hb⟩; obtain ⟨hc, hf⟩ := bcell hb)
  have m1 := hw.m1
  have m2 := hw.m2
  have m3 := hw.m3
  have m4 := hw.m4
  rw [alloc_size] at m1 m2 m3 m4
  refine bodyPost_ret (v := .tuple #[recV (recOf p b1 b2 b3 b4), .bool true]) (by simp [results, Tryz.results116, go_sem, hc]) rfl ⟨b1, b2, b3, b4, rfl, ?_, ?_⟩
  · have q : b1 ≠ w.heap.size ∧ b2 ≠ w.heap.size ∧ b3 ≠ w.heap.size ∧ b4 ≠ w.heap.size := by omega
    iterate 10 refine SortWords.far ?_ q _ _
    exact hw.low (by rw [alloc_size]; omega)
  · have p1 : Below w.heap.size w w' := ((Below.refl _ _).alloc (Nat.le_refl _) _).trans (hb.mono (by rw [alloc_size]; omega))
    iterate 10 refine Below.setCell ?_ (by exact Nat.le_refl _) _
    exact p1
end Go.Proofs
set_option linter.unusedVariables false
set_option linter.unusedSimpArgs false
namespace Go.Proofs.Val
open Go.RowKit Go.Lib Go.Proofs.YtolfpgccebdlpaaGreatDoorW.PrintWords
theorem below_of_row {w W : World} {B : Nat} (h : Below B w W) {i : Nat} {o : Obj} (hi : w.heap[i]? = some o) (hb : i < B) : W.heap[i]? = some o := (h.block i hb).trans hi
theorem ascii_all {l : List UInt8} (h : l.all (fun b => decide (b.toNat < 128)) = true) : ∀ (j : Nat) (b : UInt8), l[j]? = some b → b.toNat < 128 := fun j b hb => of_decide_eq_true (List.all_eq_true.1 h b (List.mem_of_getElem? hb))
theorem trim_dig (s : ByteArray) (w : World) (hs : s.size < 4294967281) :
    Calls Tryz.prog 132 #[.string s, .string ⟨#[48, 49, 50, 51, 52, 53, 54, 55, 56, 57]⟩] w fun e w' => e = .returned (.string ⟨(Lib.trimS s.data.toList [48, 49, 50, 51, 52, 53, 54, 55, 56, 57]).toArray⟩) ∧ Below w.heap.size w w' :=
  Any.strings_Trim_laid Tryz.lays160 (by kernel_rfl) s ⟨#[48, 49, 50, 51, 52, 53, 54, 55, 56, 57]⟩ w (by omega) (by decide) (ascii_all (by decide))
set_option maxHeartbeats 1000000 in
theorem digits9 (w : World) : Calls Tryz.prog 183 #[.string ⟨#[57, 57, 57, 57, 57, 57, 57, 57, 57]⟩, .int .i64 9] w fun e w' => e = .returned (.bool true) ∧ Below w.heap.size w w' := by
  have hT := fun w => trim_dig ⟨#[57, 57, 57, 57, 57, 57, 57, 57, 57]⟩ w (by decide)
  rw [show Lib.trimS (⟨#[57, 57, 57, 57, 57, 57, 57, 57, 57]⟩ : ByteArray).data.toList [48, 49, 50, 51, 52, 53, 54, 55, 56, 57] = [] by decide] at hT
  go_enter Tryz.func183, Tryz.ntmps183
  go_wp2_with (first | (go_at_call 132; refine (hT _).mono ?_; rintro e w' ⟨rfl, hB⟩))
  go_ret
  exact ⟨rfl, hB⟩
set_option maxHeartbeats 1000000 in
theorem digits6 (w : World) : Calls Tryz.prog 183 #[.string ⟨#[57, 57, 57, 57, 57, 57]⟩, .int .i64 6] w fun e w' => e = .returned (.bool true) ∧ Below w.heap.size w w' := by
  have hT := fun w => trim_dig ⟨#[57, 57, 57, 57, 57, 57]⟩ w (by decide)
  rw [show Lib.trimS (⟨#[57, 57, 57, 57, 57, 57]⟩ : ByteArray).data.toList [48, 49, 50, 51, 52, 53, 54, 55, 56, 57] = [] by decide] at hT
  go_enter Tryz.func183, Tryz.ntmps183
  go_wp2_with (first | (go_at_call 132; refine (hT _).mono ?_; rintro e w' ⟨rfl, hB⟩))
  go_ret
  exact ⟨rfl, hB⟩
set_option maxHeartbeats 2000000 in
theorem numberM (w : World) : Calls Tryz.prog 148 #[.string ⟨#[57, 57, 57, 57, 57, 57, 57, 57, 57, 46, 57, 57, 57, 57, 57, 57]⟩] w fun e w' => e = .returned (.tuple #[.int .i64 63999999999, .bool true]) ∧ Below w.heap.size w w' := by
  have hP := fun w => Tryz.strings_CutPrefix ⟨#[57, 57, 57, 57, 57, 57, 57, 57, 57, 46, 57, 57, 57, 57, 57, 57]⟩ ⟨#[45]⟩ w
  rw [show Lib.trimPrefix (⟨#[57, 57, 57, 57, 57, 57, 57, 57, 57, 46, 57, 57, 57, 57, 57, 57]⟩ : ByteArray).data.toList (⟨#[45]⟩ : ByteArray).data.toList = [57, 57, 57, 57, 57, 57, 57, 57, 57, 46, 57, 57, 57, 57, 57, 57] by decide, show Lib.hasPrefix (⟨#[57, 57, 57, 57, 57, 57, 57, 57, 57, 46, 57, 57, 57, 57, 57, 57]⟩ : ByteArray).data.toList (⟨#[45]⟩ : ByteArray).data.toList = false by decide] at hP
  have hC := fun w => ShX.xCut_one Tryz.lays145 ⟨#[57, 57, 57, 57, 57, 57, 57, 57, 57, 46, 57, 57, 57, 57, 57, 57]⟩ 46 w (by decide)
  rw [show Lib.cut (⟨#[57, 57, 57, 57, 57, 57, 57, 57, 57, 46, 57, 57, 57, 57, 57, 57]⟩ : ByteArray).data.toList [46] = ([57, 57, 57, 57, 57, 57, 57, 57, 57], [57, 57, 57, 57, 57, 57], true) by decide] at hC
  have hN := fun w => Tryz.strconv_ParseInt_10_at64_ok ⟨#[57, 57, 57, 57, 57, 57, 57, 57, 57]⟩ (by decide) 999999999 (by decide) w
  have hM := fun w => Tryz.strconv_ParseInt_10_at64_ok ⟨#[57, 57, 57, 57, 57, 57]⟩ (by decide) 999999 (by decide) w
  have e6 : ((⟨#[57, 57, 57, 57, 57, 57]⟩ : ByteArray) ++ (⟨#[48, 48, 48, 48, 48, 48]⟩ : ByteArray)).extract 0 6 = ⟨#[57, 57, 57, 57, 57, 57]⟩ := by decide
  rw [← e6] at hM
  have hb : ∀ {W W' : World}, (W' = W ∨ ∃ t, W' = Lib.bytesWorld W 5 t) → Below W.heap.size W W' := by
    rintro W W' (rfl | ⟨t, rfl⟩)
    · exact Below.refl _ _
    · exact Lib.bytesWorld_below _ _ _
  go_enter Tryz.func148, Tryz.ntmps148
  go_wp2_with (first | (go_at_call 182; refine (hP _).mono ?_; rintro e w' ⟨rfl, rfl⟩) | (go_at_call 102; refine (hC _).mono ?_; rintro e w' ⟨rfl, nd, rfl⟩) | (go_at_call 183; first | (with_reducible refine (digits9 _).mono ?_; rintro e w1 ⟨rfl, hB1⟩) | (with_reducible refine (digits6 _).mono ?_; rintro e w2 ⟨rfl, hB2⟩)) | (go_at_call 184; first | (with_reducible refine (hN _).mono ?_; rintro e w3 ⟨rfl, hB3⟩) | (refine (hM _).mono ?_; rintro e w4 ⟨rfl, hB4⟩)))
  go_ret2
  have q0 : Below w'.heap.size w' (w'.drewN nd) := pw_below_drewN (Below.refl _ _) nd
  have q1 := below_then q0 q0.size hB1
  have q2 := below_then q1 q1.size hB2
  have q3 := below_then q2 q2.size (hb hB3)
  exact ⟨rfl, below_then q3 q3.size (hb hB4)⟩
set_option maxHeartbeats 1000000 in
theorem most_any (w : World) : Calls Tryz.prog 117 #[] w fun e w' => e = .returned (.int .i64 63999999999) ∧ Below w.heap.size w w' := by
  go_enter Tryz.func117, Tryz.ntmps117
  go_wp2_with (first | (go_at_call 148; refine (numberM _).mono ?_; rintro e w' ⟨rfl, hB⟩))
  go_ret
  exact ⟨rfl, hB⟩
end Go.Proofs.Val
