/- scrimlaw17.may of any style: its contract, proved by walking its text; no condition. -/
import Derived.Test.YtmfhhlgjbjbnhaaDoorBlk3
import Derived.Test.YtmfhhlgjbjbnhaaDoorVmB
set_option linter.unusedVariables false
set_option linter.unusedSimpArgs false
namespace Go.Proofs
open Go.RowKit Go.Proofs.YtmfhhlgjbjbnhaaDoorW.PrintWords
theorem at_styA0 (f : Nat → Int × Int) : (styA f)[0]? = some (.int .i64 (f 0).1) := at_styA f 0 (by omega)
theorem at_styA01 (f : Nat → Int × Int) : (styA f)[1]? = some (.int .i64 (f 0).2) := at_styA1 f 0 (by omega)
set_option maxHeartbeats 2000000 in
theorem may17C (f : Nat → Int × Int) (w : World) :
    Calls Tryd.prog 8 #[.agg (styA f)] w fun e w' => ∃ b, e = .returned (.bool b) ∧ (b = true → ∀ p, 1 ≤ p → p ≤ 26 → Val.mayV p (f p).1 (f p).2 = true) ∧ Below w.heap.size w w' := by
  go_enter Tryd.func8, Tryd.ntmps8
  go_wp2_with fail
  have hi0 : (w.alloc (Obj.cells (styA f) 25)).heap[w.heap.size]? = some (.cells (styA f) 25 (0, 0)) := heap_alloc_new _ _
  have hib : Below w.heap.size w (w.alloc (Obj.cells (styA f) 25)) := (Below.refl _ _).alloc (Nat.le_refl _) _
  have HI := Lib.hid (And.intro hi0 hib)
  clear hi0 hib
  go_loopw [3] (fun i wr => ∃ k : Nat, 1 ≤ k ∧ k ≤ 27 ∧ i = .int .i64 k ∧ (∀ p, 1 ≤ p → p < k → Val.mayV p (f p).1 (f p).2 = true) ∧ wr.heap[w.heap.size]? = some (.cells (styA f) 25 (0, 0)) ∧ Below w.heap.size w wr) (fun i _ => 27 - (intOf i).toNat)
  case atStart => exact ⟨1, by omega, by omega, rfl, fun p h1 h2 => by omega, HI.out⟩
  case round =>
    obtain ⟨k, hk1, hk2, rfl, ha, h0, hB⟩ := hrel
    clear HI
    have l0 := lt_get h0
    by_cases hlt : k < 27
    · have HH := Lib.hid (And.intro ha (And.intro h0 hB))
      have c0 : wr.cell? ⟨w.heap.size, k * 2, none⟩ = some (.int .i64 (f k).1) := (cell_of_row _ _ _ _ _ _ h0).trans (at_styA f _ hlt)
      have c1 : wr.cell? ⟨w.heap.size, k * 2 + 1, none⟩ = some (.int .i64 (f k).2) := (cell_of_row _ _ _ _ _ _ h0).trans (at_styA1 f _ hlt)
      clear ha h0 hB
      cases hm : Val.mayV k (f k).1 (f k).2 with
      | true =>
        go_wp2_with (go_at_call 16; refine (Val.mayC k hk1 (by omega) (f k).1 (f k).2 _).mono ?_; rintro e w1 ⟨rfl, hb⟩)
        go_roundw
        case rel =>
          obtain ⟨ha, h0, hB⟩ := HH.out
          refine ⟨k + 1, by omega, by omega, by go_num, fun p h1 h2 => ?_, below_of_row hb h0 l0, hB.trans (hb.mono hB.size)⟩
          by_cases e : p = k
          · rw [e]; exact hm
          · exact ha p h1 (by omega)
        case measure => simp [intOf]; omega
      | false =>
        go_wp2_with (go_at_call 16; refine (Val.mayC k hk1 (by omega) (f k).1 (f k).2 _).mono ?_; rintro e w1 ⟨rfl, hb⟩)
        go_ret
        exact ⟨_, rfl, fun h => absurd h (by simp), (HH.out.2.2).trans (hb.mono HH.out.2.2.size)⟩
    · obtain rfl : k = 27 := by omega
      have c0 : wr.cell? ⟨w.heap.size, 0, none⟩ = some (.int .i64 (f 0).1) := (cell_of_row _ _ _ _ _ _ h0).trans (at_styA0 f)
      have c1 : wr.cell? ⟨w.heap.size, 1, none⟩ = some (.int .i64 (f 0).2) := (cell_of_row _ _ _ _ _ _ h0).trans (at_styA01 f)
      have HH := Lib.hid (And.intro ha (And.intro h0 hB))
      clear ha h0 hB
      go_wp2
      all_goals go_ret
      all_goals exact ⟨_, rfl, fun _ p h1 h2 => HH.out.1 p h1 (by omega), HH.out.2.2⟩
end Go.Proofs
