/- Contracts of functions of the given program, proved by walking their text (module SrtC); no condition beside those that each theorem states. -/
import Derived.Test.YtmfhhlgjbjbnhaaDoorProg
import Derived.WalkKit
import Derived.WalkLawsBesides
import Derived.WalkSpells
import Derived.Below
import Derived.Deep.Draws
import Derived.Deep.AppendLies
import Derived.Maps.AppendAt
import Derived.OwnWalk
import Derived.Laws.BytesArg
import Derived.Laws.MakeOwn
import Derived.Laws.OwnMore
import Derived.Deep.OwnRows
import Derived.Laws.Slices
import Derived.KernelRfl
import Derived.RowKit3
import Derived.Deep.LoopGhost
import Derived.Deep.QuietTactic
import Derived.BigQuiet
import Derived.WideLaws
import Derived.Deep.DeepCutAuto
import Derived.Deep.CutBlock
import Derived.Deep.RegionHeld3
import Derived.Laws.Rows
import Derived.Laws.Tables
import Derived.RowKit
import Derived.Outline
import Derived.Test.YtmfhhlgjbjbnhaaDoorSrtB
set_option linter.unusedVariables false
set_option linter.unusedSimpArgs false
namespace Go.Proofs
open Go.RowKit
/-- What a property's values are. -/
structure SortRec where
  name : ByteArray
  auto : Bool
  length : Bool
  part : Bool
  below : Bool
  color : Bool
  number : Bool
  wa : Option Addr
  wn : Nat
  k : Int
  n : Int
def recs (b1 b2 b3 b4 : Nat) : List SortRec := [⟨{ data := #[] }, false, false, false, false, false, false, none, 0, 0, 0⟩,
  ⟨{ data := #[100, 105, 115, 112, 108, 97, 121] }, false, false, false, false, false, false, some ⟨b1, 0, none⟩, 4, 5, 1⟩,
  ⟨{ data := #[119, 105, 100, 116, 104] }, true, true, true, false, false, false, none, 0, 1, 0⟩,
  ⟨{ data := #[104, 101, 105, 103, 104, 116] }, true, true, true, false, false, false, none, 0, 1, 0⟩,
  ⟨{ data := #[109, 97, 114, 103, 105, 110, 45, 116, 111, 112] }, true, true, false, true, false, false, none, 0, 2, 0⟩,
  ⟨{ data := #[109, 97, 114, 103, 105, 110, 45, 114, 105, 103, 104, 116] }, true, true, false, true, false, false, none, 0, 2, 0⟩,
  ⟨{ data := #[109, 97, 114, 103, 105, 110, 45, 98, 111, 116, 116, 111, 109] }, true, true, false, true, false, false, none, 0, 2, 0⟩,
  ⟨{ data := #[109, 97, 114, 103, 105, 110, 45, 108, 101, 102, 116] }, true, true, false, true, false, false, none, 0, 2, 0⟩,
  ⟨{ data := #[112, 97, 100, 100, 105, 110, 103, 45, 116, 111, 112] }, false, true, false, false, false, false, none, 0, 2, 0⟩,
  ⟨{ data := #[112, 97, 100, 100, 105, 110, 103, 45, 114, 105, 103, 104, 116] }, false, true, false, false, false, false, none, 0, 2, 0⟩,
  ⟨{ data := #[112, 97, 100, 100, 105, 110, 103, 45, 98, 111, 116, 116, 111, 109] }, false, true, false, false, false, false, none, 0, 2, 0⟩,
  ⟨{ data := #[112, 97, 100, 100, 105, 110, 103, 45, 108, 101, 102, 116] }, false, true, false, false, false, false, none, 0, 2, 0⟩,
  ⟨{ data := #[98, 111, 114, 100, 101, 114, 45, 116, 111, 112, 45, 119, 105, 100, 116, 104] }, false, true, false, false, false, false, none, 0, 2, 0⟩,
  ⟨{ data := #[98, 111, 114, 100, 101, 114, 45, 114, 105, 103, 104, 116, 45, 119, 105, 100, 116, 104] }, false, true, false, false, false, false, none, 0, 2, 0⟩,
  ⟨{ data := #[98, 111, 114, 100, 101, 114, 45, 98, 111, 116, 116, 111, 109, 45, 119, 105, 100, 116, 104] }, false, true, false, false, false, false, none, 0, 2, 0⟩,
  ⟨{ data := #[98, 111, 114, 100, 101, 114, 45, 108, 101, 102, 116, 45, 119, 105, 100, 116, 104] }, false, true, false, false, false, false, none, 0, 2, 0⟩,
  ⟨{ data := #[99, 111, 108, 111, 114] }, false, false, false, false, true, false, none, 0, 4, 0⟩,
  ⟨{ data := #[98, 97, 99, 107, 103, 114, 111, 117, 110, 100, 45, 99, 111, 108, 111, 114] }, false, false, false, false, true, false, none, 0, 4, 16777215⟩,
  ⟨{ data := #[102, 111, 110, 116, 45, 115, 105, 122, 101] }, false, true, false, false, false, false, none, 0, 2, 1024⟩,
  ⟨{ data := #[116, 101, 120, 116, 45, 97, 108, 105, 103, 110] }, false, false, false, false, false, false, some ⟨b2, 0, none⟩, 3, 5, 0⟩,
  ⟨{ data := #[102, 108, 101, 120, 45, 103, 114, 111, 119] }, false, false, false, false, false, true, none, 0, 6, 0⟩,
  ⟨{ data := #[102, 108, 101, 120, 45, 115, 104, 114, 105, 110, 107] }, false, false, false, false, false, true, none, 0, 6, 64⟩,
  ⟨{ data := #[102, 108, 101, 120, 45, 100, 105, 114, 101, 99, 116, 105, 111, 110] }, false, false, false, false, false, false, some ⟨b3, 0, none⟩, 2, 5, 0⟩,
  ⟨{ data := #[106, 117, 115, 116, 105, 102, 121, 45, 99, 111, 110, 116, 101, 110, 116] }, false, false, false, false, false, false, some ⟨b4, 0, none⟩, 4, 5, 0⟩,
  ⟨{ data := #[111, 114, 100, 101, 114] }, false, false, false, true, false, true, none, 0, 6, 0⟩,
  ⟨{ data := #[108, 101, 102, 116] }, false, true, false, true, false, false, none, 0, 2, 0⟩,
  ⟨{ data := #[116, 111, 112] }, false, true, false, true, false, false, none, 0, 2, 0⟩]
def recOf (p b1 b2 b3 b4 : Nat) : SortRec := (recs b1 b2 b3 b4).getD p ⟨{ data := #[] }, false, false, false, false, false, false, none, 0, 0, 0⟩
abbrev recV (r : SortRec) : Value := .agg #[.string r.name, .bool r.auto, .bool r.length, .bool r.part, .bool r.below, .bool r.color, .bool r.number, .slice r.wa r.wn r.wn, .int .i64 r.k, .int .i64 r.n]
def firstK (p : Nat) : Int := (recOf p 0 0 0 0).k
def firstN (p : Nat) : Int := (recOf p 0 0 0 0).n
theorem cases26 {p : Nat} (h1 : 1 ≤ p) (h2 : p ≤ 26) : p = 1 ∨ p = 2 ∨ p = 3 ∨ p = 4 ∨ p = 5 ∨ p = 6 ∨ p = 7 ∨ p = 8 ∨ p = 9 ∨ p = 10 ∨ p = 11 ∨ p = 12 ∨ p = 13 ∨ p = 14 ∨ p = 15 ∨ p = 16 ∨ p = 17 ∨ p = 18 ∨ p = 19 ∨ p = 20 ∨ p = 21 ∨ p = 22 ∨ p = 23 ∨ p = 24 ∨ p = 25 ∨ p = 26 := by omega
theorem recOf_k (p b1 b2 b3 b4 : Nat) (h1 : 1 ≤ p) (h2 : p ≤ 26) : (recOf p b1 b2 b3 b4).k = firstK p ∧ (recOf p b1 b2 b3 b4).n = firstN p := by
  obtain rfl | rfl | rfl | rfl | rfl | rfl | rfl | rfl | rfl | rfl | rfl | rfl | rfl | rfl | rfl | rfl | rfl | rfl | rfl | rfl | rfl | rfl | rfl | rfl | rfl | rfl := cases26 h1 h2
  all_goals exact ⟨rfl, rfl⟩
theorem index_SA (p : Nat) (h1 : 1 ≤ p) (h2 : p ≤ 26) : ∀ (b1 b2 b3 b4 : Nat) (w : World), (Instr.index 70 (.agg (SA 4 b1 b2 b3 b4)) (.int .i64 (p : Int))).run Tryd.prog w = .ok (recV (recOf p b1 b2 b3 b4)) w := by
  intro b1 b2 b3 b4 w
  obtain rfl | rfl | rfl | rfl | rfl | rfl | rfl | rfl | rfl | rfl | rfl | rfl | rfl | rfl | rfl | rfl | rfl | rfl | rfl | rfl | rfl | rfl | rfl | rfl | rfl | rfl := cases26 h1 h2
  all_goals kernel_rfl
theorem bcell {W w1 : World} (hb : Below W.heap.size W w1) : (∀ b o, b < W.heap.size → w1.cell? ⟨b, o, none⟩ = W.cell? ⟨b, o, none⟩) ∧ (∀ b o, b < W.heap.size → w1.frozen? ⟨b, o, none⟩ = W.frozen? ⟨b, o, none⟩) :=
  ⟨fun b o h => hb.cell (p := ⟨b, o, none⟩) h, fun b o h => hb.frozen (p := ⟨b, o, none⟩) h⟩
theorem SortWords.far {w W : World} {b1 b2 b3 b4 g : Nat} (h : SortWords w W b1 b2 b3 b4) (q : b1 ≠ g ∧ b2 ≠ g ∧ b3 ≠ g ∧ b4 ≠ g) (o : Nat) (v : Value) : SortWords w (W.setCell ⟨g, o, none⟩ v) b1 b2 b3 b4 :=
  ⟨(heap_setCell_other W ⟨g, o, none⟩ b1 v q.1).trans h.r1, (heap_setCell_other W ⟨g, o, none⟩ b2 v q.2.1).trans h.r2, (heap_setCell_other W ⟨g, o, none⟩ b3 v q.2.2.1).trans h.r3, (heap_setCell_other W ⟨g, o, none⟩ b4 v q.2.2.2).trans h.r4, h.m1, h.m2, h.m3, h.m4⟩
theorem SortWords.low {w w0 W : World} {b1 b2 b3 b4 : Nat} (h : SortWords w W b1 b2 b3 b4) (q : w0.heap.size ≤ w.heap.size) : SortWords w0 W b1 b2 b3 b4 :=
  ⟨h.r1, h.r2, h.r3, h.r4, Nat.le_trans q h.m1, Nat.le_trans q h.m2, Nat.le_trans q h.m3, Nat.le_trans q h.m4⟩
set_option maxHeartbeats 1000000 in
theorem ofC (p : Nat) (h1 : 1 ≤ p) (h2 : p ≤ 26) (w : World) :
    Calls Tryd.prog 31 #[.int .i64 (p : Int)] w fun e w' => ∃ b1 b2 b3 b4, e = .returned (.tuple #[recV (recOf p b1 b2 b3 b4), .bool true]) ∧ SortWords w w' b1 b2 b3 b4 ∧ Below w.heap.size w w' := by
  have hx := index_SA p h1 h2
  go_enter Tryd.func31, Tryd.ntmps31
  go_wp2_with (go_at_call 37; refine (sortsC _).mono ?_; rintro e w' ⟨b1, b2, b3, b4, rfl, hw, hb⟩; obtain ⟨hc, hf⟩ := bcell hb)
  have m1 := hw.m1
  have m2 := hw.m2
  have m3 := hw.m3
  have m4 := hw.m4
  rw [alloc_size] at m1 m2 m3 m4
  refine bodyPost_ret (v := .tuple #[recV (recOf p b1 b2 b3 b4), .bool true]) (by simp [results, Tryd.results31, go_sem, hc]) rfl ⟨b1, b2, b3, b4, rfl, ?_, ?_⟩
  · have q : b1 ≠ w.heap.size ∧ b2 ≠ w.heap.size ∧ b3 ≠ w.heap.size ∧ b4 ≠ w.heap.size := by omega
    iterate 10 refine SortWords.far ?_ q _ _
    exact hw.low (by rw [alloc_size]; omega)
  · have p1 : Below w.heap.size w w' := ((Below.refl _ _).alloc (Nat.le_refl _) _).trans (hb.mono (by rw [alloc_size]; omega))
    iterate 10 refine Below.setCell ?_ (by exact Nat.le_refl _) _
    exact p1
set_option maxHeartbeats 1000000 in
theorem firstC (p : Nat) (h1 : 1 ≤ p) (h2 : p ≤ 26) (w : World) :
    Calls Tryd.prog 19 #[.int .i64 (p : Int)] w fun e w' => e = .returned (.agg #[.int .i64 (firstK p), .int .i64 (firstN p)]) ∧ Below w.heap.size w w' := by
  go_enter Tryd.func19, Tryd.ntmps19
  go_wp2_with (go_at_call 31; refine (ofC p h1 h2 _).mono ?_; rintro e w' ⟨b1, b2, b3, b4, rfl, hw, hb⟩; obtain ⟨hc, hf⟩ := bcell hb; clear hw; have hz : w.heap.size < w'.heap.size := by (have hs := hb.size; rw [alloc_size] at hs; omega))
  obtain ⟨ek, en⟩ := recOf_k p b1 b2 b3 b4 h1 h2
  refine bodyPost_ret (v := .agg #[.int .i64 (firstK p), .int .i64 (firstN p)]) (by simp [results, Tryd.results19, go_sem, hc, hz, ek, en]) rfl ⟨rfl, ?_⟩
  have p1 : Below w.heap.size w w' := ((Below.refl _ _).alloc (Nat.le_refl _) _).trans (hb.mono (by rw [alloc_size]; omega))
  exact ((p1.setCell (by exact Nat.le_refl _) _).setCell (by exact Nat.le_refl _) _).alloc (by rw [setc_size, setc_size]; omega) _
end Go.Proofs
