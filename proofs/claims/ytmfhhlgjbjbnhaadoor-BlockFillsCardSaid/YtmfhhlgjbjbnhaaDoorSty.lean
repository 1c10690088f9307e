/- Contracts of functions of the given program, proved by walking their text (module Sty); no condition beside those that each theorem states. -/
import Derived.Test.YtmfhhlgjbjbnhaaDoorProg
import Derived.WalkKit
import Derived.WalkLawsBesides
import Derived.WalkSpells
import Derived.Below
import Derived.Deep.Draws
import Derived.Deep.AppendLies
import Derived.Maps.AppendAt
import Derived.OwnWalk
import Derived.Laws.BytesArg
import Derived.Laws.MakeOwn
import Derived.Laws.OwnMore
import Derived.Deep.OwnRows
import Derived.Laws.Slices
import Derived.KernelRfl
import Derived.RowKit3
import Derived.Deep.LoopGhost
import Derived.Deep.QuietTactic
import Derived.BigQuiet
import Derived.WideLaws
import Derived.Deep.DeepCutAuto
import Derived.Deep.CutBlock
import Derived.Deep.RegionHeld3
import Derived.Laws.Rows
import Derived.Laws.Tables
import Derived.RowKit
import Derived.Outline
import Derived.Test.YtmfhhlgjbjbnhaaDoorSrtC
import Derived.Lib.Hide
import Derived.Deep.MidRow
set_option linter.unusedVariables false
set_option linter.unusedSimpArgs false
namespace Go.Proofs
open Go.RowKit
/-- A style: of each property's number the kind and the number. -/
def styL (f : Nat → Int × Int) : List Value := (List.range 27).flatMap fun p => [.int .i64 (f p).1, .int .i64 (f p).2]
def styA (f : Nat → Int × Int) : Array Value := (styL f).toArray
theorem cases27 {p : Nat} (h : p < 27) : p = 0 ∨ p = 1 ∨ p = 2 ∨ p = 3 ∨ p = 4 ∨ p = 5 ∨ p = 6 ∨ p = 7 ∨ p = 8 ∨ p = 9 ∨ p = 10 ∨ p = 11 ∨ p = 12 ∨ p = 13 ∨ p = 14 ∨ p = 15 ∨ p = 16 ∨ p = 17 ∨ p = 18 ∨ p = 19 ∨ p = 20 ∨ p = 21 ∨ p = 22 ∨ p = 23 ∨ p = 24 ∨ p = 25 ∨ p = 26 := by omega
theorem size_styA (f : Nat → Int × Int) : (styA f).size = 54 := by kernel_rfl
theorem all_styA (f : Nat → Int × Int) : (styA f).all (·.oneCell') = true := by kernel_rfl
theorem at_styA (f : Nat → Int × Int) (p : Nat) (hp : p < 27) : (styA f)[p * 2]? = some (.int .i64 (f p).1) := by
  obtain rfl | rfl | rfl | rfl | rfl | rfl | rfl | rfl | rfl | rfl | rfl | rfl | rfl | rfl | rfl | rfl | rfl | rfl | rfl | rfl | rfl | rfl | rfl | rfl | rfl | rfl | rfl := cases27 hp
  all_goals kernel_rfl
theorem at_styA1 (f : Nat → Int × Int) (p : Nat) (hp : p < 27) : (styA f)[p * 2 + 1]? = some (.int .i64 (f p).2) := by
  obtain rfl | rfl | rfl | rfl | rfl | rfl | rfl | rfl | rfl | rfl | rfl | rfl | rfl | rfl | rfl | rfl | rfl | rfl | rfl | rfl | rfl | rfl | rfl | rfl | rfl | rfl | rfl := cases27 hp
  all_goals kernel_rfl
def putS (f : Nat → Int × Int) (p : Nat) (v : Int × Int) : Nat → Int × Int := fun q => if q = p then v else f q
theorem set_styA (f : Nat → Int × Int) (p : Nat) (hp : p < 27) (a b : Int) : ((styA f).setIfInBounds (p * 2) (.int .i64 a)).setIfInBounds (p * 2 + 1) (.int .i64 b) = styA (putS f p (a, b)) := by
  obtain rfl | rfl | rfl | rfl | rfl | rfl | rfl | rfl | rfl | rfl | rfl | rfl | rfl | rfl | rfl | rfl | rfl | rfl | rfl | rfl | rfl | rfl | rfl | rfl | rfl | rfl | rfl := cases27 hp
  all_goals kernel_rfl
/-- the style of what is at first, its first k -/
def fstS (k : Nat) : Nat → Int × Int := fun p => if p < k then (firstK p, firstN p) else (0, 0)
def firstS : Nat → Int × Int := fun p => (firstK p, firstN p)
theorem styA_congr {f g : Nat → Int × Int} (h : ∀ p, p < 27 → f p = g p) : styA f = styA g := by
  have e : (List.range 27).map (fun p => [Value.int .i64 (f p).1, Value.int .i64 (f p).2]) = (List.range 27).map (fun p => [Value.int .i64 (g p).1, Value.int .i64 (g p).2]) :=
    List.map_congr_left fun p hp => by rw [h p (List.mem_range.1 hp)]
  unfold styA styL
  rw [List.flatMap_def, List.flatMap_def, e]
theorem fstS_step (k : Nat) : styA (putS (fstS k) k (firstK k, firstN k)) = styA (fstS (k + 1)) :=
  styA_congr fun p _ => by
    unfold putS fstS
    by_cases h : p = k
    · subst h; simp
    · simp only [if_neg h]
      by_cases h2 : p < k
      · rw [if_pos h2, if_pos (by omega)]
      · rw [if_neg h2, if_neg (by omega)]
theorem fstS_one : styA (fun _ => (0, 0)) = styA (fstS 1) := styA_congr fun p _ => by
  unfold fstS
  by_cases h : p < 1
  · obtain rfl : p = 0 := by omega
    rfl
  · rw [if_neg h]
theorem fstS_end : styA (fstS 27) = styA firstS := styA_congr fun p h => by unfold fstS firstS; rw [if_pos h]
theorem zero56 (w : World) : (zeroValue 25).run Tryd.prog w = .ok (.agg (styA fun _ => (0, 0))) w := by kernel_rfl
theorem info56 : (Tryd.prog.info? 25).map (·.size) = some 54 := by kernel_rfl
theorem set2_row {W : World} {g : Nat} {cur : Array Value} {t : TypeId} (h : W.heap[g]? = some (.cells cur t (0, 0))) (i : Nat) (a b : Value) :
    ((W.setCell ⟨g, i, none⟩ a).setCell ⟨g, i + 1, none⟩ b).heap[g]? = some (.cells ((cur.setIfInBounds i a).setIfInBounds (i + 1) b) t (0, 0)) :=
  heap_setCell_same _ _ _ _ t _ (heap_setCell_same _ _ _ _ t _ h)
theorem below_of_row {w W : World} {B : Nat} (h : Below B w W) {i : Nat} {o : Obj} (hi : w.heap[i]? = some o) (hb : i < B) : W.heap[i]? = some o := (h.block i hb).trans hi
set_option maxHeartbeats 1000000 in
theorem first17C (w : World) :
    Calls Tryd.prog 21 #[] w fun e w' => e = .returned (.agg (styA firstS)) ∧ Below w.heap.size w w' := by
  have hz := zero56
  go_enter Tryd.func21, Tryd.ntmps21
  go_wp2_with fail
  clear hz
  have hi0 : ((w.alloc (Obj.cells (styA fun _ => (0, 0)) 25)).alloc (Obj.cells (styA fun _ => (0, 0)) 25)).heap[w.heap.size]? = some (.cells (styA fun _ => (0, 0)) 25 (0, 0)) := by
    simp only [alloc_get, alloc_size]; (repeat' (first | omega | (exact absurd trivial (by assumption)) | split | rfl))
  have hi1 : ((w.alloc (Obj.cells (styA fun _ => (0, 0)) 25)).alloc (Obj.cells (styA fun _ => (0, 0)) 25)).heap[w.heap.size + 1]? = some (.cells (styA (fstS 1)) 25 (0, 0)) := by
    rw [← fstS_one]; simp only [alloc_get, alloc_size]; (repeat' (first | omega | (exact absurd trivial (by assumption)) | split | rfl))
  have hib : Below w.heap.size w ((w.alloc (Obj.cells (styA fun _ => (0, 0)) 25)).alloc (Obj.cells (styA fun _ => (0, 0)) 25)) := ((Below.refl _ _).alloc (Nat.le_refl _) _).alloc (by rw [alloc_size]; omega) _
  have HI := Lib.hid (And.intro hi0 (And.intro hi1 hib))
  clear hi0 hi1 hib
  go_loopw [2] (fun i wr => ∃ k : Nat, 1 ≤ k ∧ k ≤ 27 ∧ i = .int .i64 k ∧ wr.heap[w.heap.size]? = some (.cells (styA fun _ => (0, 0)) 25 (0, 0)) ∧ wr.heap[w.heap.size + 1]? = some (.cells (styA (fstS k)) 25 (0, 0)) ∧ Below w.heap.size w wr) (fun i _ => 27 - (intOf i).toNat)
  case atStart => exact ⟨1, by omega, by omega, rfl, HI.out⟩
  case round =>
    obtain ⟨k, hk1, hk2, rfl, h0, h1, hB⟩ := hrel
    clear HI
    by_cases hlt : k < 27
    · have HH := Lib.hid (And.intro h0 (And.intro h1 hB))
      have l1 := lt_get h1
      obtain ⟨y0, e0⟩ := cell_ex h1 (k * 2) (by rw [size_styA]; omega)
      obtain ⟨y1, e1⟩ := cell_ex h1 (k * 2 + 1) (by rw [size_styA]; omega)
      have f0 := frozen_of_row wr (w.heap.size + 1) (k * 2) _ _ h1
      have f1 := frozen_of_row wr (w.heap.size + 1) (k * 2 + 1) _ _ h1
      clear h0 h1 hB
      go_wp2_with (go_at_call 19; refine (firstC k hk1 (by omega) _).mono ?_; rintro e w1 ⟨rfl, hb⟩; obtain ⟨hc, hf⟩ := bcell hb)
      go_roundw
      case rel =>
        obtain ⟨h0, h1, hB⟩ := HH.out
        have h0' := below_of_row hb h0 (by omega)
        have h1' := below_of_row hb h1 (by omega)
        refine ⟨k + 1, by omega, by omega, by go_num, ?_, ?_, ?_⟩
        · rw [heap_setCell_other _ _ _ _ (by simp), heap_setCell_other _ _ _ _ (by simp)]; exact h0'
        · rw [← fstS_step, ← set_styA _ _ (by omega)]; exact set2_row h1' _ _ _
        · exact ((hB.trans (hb.mono hB.size)).setCell (by simp) _).setCell (by simp) _
      case measure => simp [intOf]; omega
    · obtain rfl : k = 27 := by omega
      rw [fstS_end] at h1
      go_wp2_with (first | (refine wpList_load_row rfl 25 _ rfl (w.heap.size + 1) rfl 25 _ _ _ h1 Tryd.underlying25 rfl (info56.trans (congrArg some (size_styA _).symm)) ?_) | (refine wpList_store_row rfl 25 _ _ rfl w.heap.size (styA firstS) rfl rfl 25 _ h0 (info56.trans (congrArg some (size_styA _).symm)) ((size_styA _).trans (size_styA _).symm) (all_styA _) ?_))
      refine bodyPost_ret (v := .agg (styA firstS)) (results_cell_row Tryd.results21 _ _ w.heap.size 25 _ _ _ rfl (setRow_heap wr w.heap.size _ _ 25 _ h0) Tryd.underlying25 rfl (info56.trans (congrArg some (size_styA _).symm))) rfl ?_
      exact ⟨rfl, below_setRow hB _ _ (Nat.le_refl _)⟩
end Go.Proofs
