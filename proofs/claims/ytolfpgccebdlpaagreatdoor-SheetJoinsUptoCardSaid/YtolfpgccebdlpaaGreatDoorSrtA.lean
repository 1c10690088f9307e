/- Contracts of functions of the given program, proved by walking their text (module SrtA); no condition beside those that each theorem states. -/
import Derived.Lib.Hide
import Derived.StillTailTactics
import Derived.Deep.MidRow
import Derived.Test.YtolfpgccebdlpaaGreatDoorWWords
import Derived.Test.YtolfpgccebdlpaaGreatDoorProg
import Derived.WalkKit
import Derived.WalkLawsBesides
import Derived.WalkSpells
import Derived.Below
import Derived.Deep.Draws
import Derived.Deep.AppendLies
import Derived.Maps.AppendAt
import Derived.OwnWalk
import Derived.Laws.BytesArg
import Derived.Laws.MakeOwn
import Derived.Laws.OwnMore
import Derived.Deep.OwnRows
import Derived.Laws.Slices
import Derived.KernelRfl
import Derived.RowKit3
import Derived.Deep.LoopGhost
import Derived.Deep.QuietTactic
import Derived.BigQuiet
import Derived.WideLaws
import Derived.Deep.DeepCutAuto
import Derived.Deep.CutBlock
import Derived.Deep.RegionHeld3
import Derived.Laws.Rows
import Derived.Laws.Tables
import Derived.RowKit
import Derived.Outline
import Derived.Test.YtolfpgccebdlpaaGreatDoorRgn
import Derived.Shelf.Strings.SlTrimAscii
import Derived.Deep.RegionWith
set_option linter.unusedVariables false
set_option linter.unusedSimpArgs false
namespace Go.Proofs
open Go.RowKit
abbrev bs (l : List UInt8) : Value := .string ⟨l.toArray⟩
def z89 : List Value := [.string ByteArray.empty, .bool false, .bool false, .bool false, .bool false, .bool false, .bool false, .slice none 0 0, .int .i64 0, .int .i64 0]
/-- one of 'sort': name, auto length part below color number, words, first -/
def srt (name : List UInt8) (a b c d e f : Bool) (w : Value) (k n : Int) : List Value := [.string ⟨name.toArray⟩, .bool a, .bool b, .bool c, .bool d, .bool e, .bool f, w, .int .i64 k, .int .i64 n]
def nilS : Value := .slice none 0 0
def rowP (b n : Nat) : Value := .slice (some ⟨b, 0, none⟩) n n
def sortsL (nw nh : List UInt8) (m p o : List (List Value)) (b1 b2 b3 b4 : Nat) : List (List Value) :=
  [z89, srt [100, 105, 115, 112, 108, 97, 121] false false false false false false (rowP b1 4) 5 1,
   srt nw true true true false false false nilS 1 0, srt nh true true true false false false nilS 1 0] ++ m ++ p ++ o ++
  [srt [99, 111, 108, 111, 114] false false false false true false nilS 4 0,
   srt [98, 97, 99, 107, 103, 114, 111, 117, 110, 100, 45, 99, 111, 108, 111, 114] false false false false true false nilS 4 16777215,
   srt [102, 111, 110, 116, 45, 115, 105, 122, 101] false true false false false false nilS 2 1024,
   srt [116, 101, 120, 116, 45, 97, 108, 105, 103, 110] false false false false false false (rowP b2 3) 5 0,
   srt [102, 108, 101, 120, 45, 103, 114, 111, 119] false false false false false true nilS 6 0,
   srt [102, 108, 101, 120, 45, 115, 104, 114, 105, 110, 107] false false false false false true nilS 6 64,
   srt [102, 108, 101, 120, 45, 100, 105, 114, 101, 99, 116, 105, 111, 110] false false false false false false (rowP b3 2) 5 0,
   srt [106, 117, 115, 116, 105, 102, 121, 45, 99, 111, 110, 116, 101, 110, 116] false false false false false false (rowP b4 4) 5 0,
   srt [111, 114, 100, 101, 114] false false false true false true nilS 6 0,
   srt [108, 101, 102, 116] false true false true false false nilS 2 0,
   srt [116, 111, 112] false true false true false false nilS 2 0]
def arrOf (l : List (List Value)) : Array Value := l.flatten.toArray
def z95 : Array Value := arrOf (List.replicate 27 z89)
theorem zero95 (w : World) : (zeroValue 191).run Tryz.prog w = .ok (.agg z95) w := by kernel_rfl
def four : List (List Value) := [z89, z89, z89, z89]
theorem built95 (b1 b2 b3 b4 : Nat) : Tryz.prog.built 191 [(1, .agg #[.string { data := #[100, 105, 115, 112, 108, 97, 121] }, .bool false, .bool false, .bool false, .bool false, .bool false, .bool false, .slice (some ⟨b1, 0, none⟩) 4 4, .int .i64 5, .int .i64 1]),
   (2, .agg #[.string { data := #[] }, .bool true, .bool true, .bool true, .bool false, .bool false, .bool false, .slice none 0 0, .int .i64 1, .int .i64 0]),
   (3, .agg #[.string { data := #[] }, .bool true, .bool true, .bool true, .bool false, .bool false, .bool false, .slice none 0 0, .int .i64 1, .int .i64 0]),
   (16, .agg (srt [99, 111, 108, 111, 114] false false false false true false nilS 4 0).toArray),
   (17, .agg (srt [98, 97, 99, 107, 103, 114, 111, 117, 110, 100, 45, 99, 111, 108, 111, 114] false false false false true false nilS 4 16777215).toArray),
   (18, .agg (srt [102, 111, 110, 116, 45, 115, 105, 122, 101] false true false false false false nilS 2 1024).toArray),
   (19, .agg (srt [116, 101, 120, 116, 45, 97, 108, 105, 103, 110] false false false false false false (rowP b2 3) 5 0).toArray),
   (20, .agg (srt [102, 108, 101, 120, 45, 103, 114, 111, 119] false false false false false true nilS 6 0).toArray),
   (21, .agg (srt [102, 108, 101, 120, 45, 115, 104, 114, 105, 110, 107] false false false false false true nilS 6 64).toArray),
   (22, .agg (srt [102, 108, 101, 120, 45, 100, 105, 114, 101, 99, 116, 105, 111, 110] false false false false false false (rowP b3 2) 5 0).toArray),
   (23, .agg (srt [106, 117, 115, 116, 105, 102, 121, 45, 99, 111, 110, 116, 101, 110, 116] false false false false false false (rowP b4 4) 5 0).toArray),
   (24, .agg (srt [111, 114, 100, 101, 114] false false false true false true nilS 6 0).toArray),
   (25, .agg (srt [108, 101, 102, 116] false true false true false false nilS 2 0).toArray),
   (26, .agg (srt [116, 111, 112] false true false true false false nilS 2 0).toArray)] = some (arrOf (sortsL [] [] four four four b1 b2 b3 b4)) := by kernel_rfl

theorem wpList_build_to {P : Program} {ops : Array Oper} {rest : List Oper} {o : Oper} {a : Act} {w : World} {Q : Exit → Act → World → Prop} (hg : o.guard = none) (t : TypeId) (parts : Array (Nat × Operand)) (ho : o.op = .build t parts) {cells : Array Value} {l : List (Nat × Value)}
    (hc : P.built t l = some cells) (hp : (parts.toList.map fun (i, x) => (i, a.eval x)) = l) (h : wpList P ops Q rest (a.put o.dst (.agg cells)) w) : wpList P ops Q (o :: rest) a w := by
  have e : (parts.map fun (i, x) => (i, a.eval x)).toList = parts.toList.map fun (i, x) => (i, a.eval x) := Array.toList_map
  exact wpList_build hg t parts ho (by rw [e, hp, hc]; rfl) (by rw [e, hp, hc]; exact h)
theorem heap_alloc_at (W : World) (o : Obj) {g : Nat} (h : g = W.heap.size) : (W.alloc o).heap[g]? = some o := by subst h; exact heap_alloc_new W o
theorem sidesC (a b : ByteArray) (w : World) (ha : a.size ≤ 1000) (hb : b.size ≤ 1000) :
    Calls Tryz.prog 181 #[.string a, .string b] w fun e w' => e = .returned (.agg #[.string (a ++ { data := #[45, 116, 111, 112] } ++ b), .string (a ++ { data := #[45, 114, 105, 103, 104, 116] } ++ b), .string (a ++ { data := #[45, 98, 111, 116, 116, 111, 109] } ++ b), .string (a ++ { data := #[45, 108, 101, 102, 116] } ++ b)]) ∧ Below w.heap.size w w' := by
  go_enter Tryz.func181, Tryz.ntmps181
  go_wp2
  exact bodyPost_ret (v := .agg #[.string (a ++ { data := #[45, 116, 111, 112] } ++ b), .string (a ++ { data := #[45, 114, 105, 103, 104, 116] } ++ b), .string (a ++ { data := #[45, 98, 111, 116, 116, 111, 109] } ++ b), .string (a ++ { data := #[45, 108, 101, 102, 116] } ++ b)]) (by simp [results, Tryz.results181, go_sem]) rfl ⟨rfl, (Below.refl _ _).alloc (Nat.le_refl _) _⟩

theorem size_arrOf0 (b1 b2 b3 b4 : Nat) : (arrOf (sortsL [] [] four four four b1 b2 b3 b4)).size = 270 := by kernel_rfl
theorem all_arrOf0 (b1 b2 b3 b4 : Nat) : (arrOf (sortsL [] [] four four four b1 b2 b3 b4)).all (·.oneCell') = true := by kernel_rfl
theorem size_z95 : z95.size = 270 := by kernel_rfl
theorem info95 : (Tryz.prog.info? 191).map (·.size) = some 270 := by kernel_rfl
abbrev S0 : Value := .string { data := #[] }
abbrev FF : Value := .bool false
abbrev TT : Value := .bool true
def WordRow' (w : World) (b t : Nat) (l : List (List UInt8)) : Prop := w.heap[b]? = some (.cells (l.map fun s => Value.string ⟨s.toArray⟩).toArray t (0, 0))
/-- the words of the properties that have some -/
structure SortWords (w wc : World) (b1 b2 b3 b4 : Nat) : Prop where
  r1 : WordRow' wc b1 9 [[98, 108, 111, 99, 107], [105, 110, 108, 105, 110, 101], [102, 108, 101, 120], [110, 111, 110, 101]]
  r2 : WordRow' wc b2 9 [[108, 101, 102, 116], [99, 101, 110, 116, 101, 114], [114, 105, 103, 104, 116]]
  r3 : WordRow' wc b3 9 [[114, 111, 119], [99, 111, 108, 117, 109, 110]]
  r4 : WordRow' wc b4 9 [[115, 116, 97, 114, 116], [99, 101, 110, 116, 101, 114], [101, 110, 100], [98, 101, 116, 119, 101, 101, 110]]
  m1 : w.heap.size ≤ b1
  m2 : w.heap.size ≤ b2
  m3 : w.heap.size ≤ b3
  m4 : w.heap.size ≤ b4
def nmMargin : List (List UInt8) := [[109, 97, 114, 103, 105, 110, 45, 116, 111, 112], [109, 97, 114, 103, 105, 110, 45, 114, 105, 103, 104, 116], [109, 97, 114, 103, 105, 110, 45, 98, 111, 116, 116, 111, 109], [109, 97, 114, 103, 105, 110, 45, 108, 101, 102, 116]]
def nmPadding : List (List UInt8) := [[112, 97, 100, 100, 105, 110, 103, 45, 116, 111, 112], [112, 97, 100, 100, 105, 110, 103, 45, 114, 105, 103, 104, 116], [112, 97, 100, 100, 105, 110, 103, 45, 98, 111, 116, 116, 111, 109], [112, 97, 100, 100, 105, 110, 103, 45, 108, 101, 102, 116]]
def nmBorder : List (List UInt8) := [[98, 111, 114, 100, 101, 114, 45, 116, 111, 112, 45, 119, 105, 100, 116, 104], [98, 111, 114, 100, 101, 114, 45, 114, 105, 103, 104, 116, 45, 119, 105, 100, 116, 104], [98, 111, 114, 100, 101, 114, 45, 98, 111, 116, 116, 111, 109, 45, 119, 105, 100, 116, 104], [98, 111, 114, 100, 101, 114, 45, 108, 101, 102, 116, 45, 119, 105, 100, 116, 104]]
theorem sides_margin (w : World) : Calls Tryz.prog 181 #[.string { data := #[109, 97, 114, 103, 105, 110] }, .string { data := #[] }] w fun e w' => e = .returned (.agg #[.string { data := #[109, 97, 114, 103, 105, 110, 45, 116, 111, 112] }, .string { data := #[109, 97, 114, 103, 105, 110, 45, 114, 105, 103, 104, 116] }, .string { data := #[109, 97, 114, 103, 105, 110, 45, 98, 111, 116, 116, 111, 109] }, .string { data := #[109, 97, 114, 103, 105, 110, 45, 108, 101, 102, 116] }]) ∧ Below w.heap.size w w' := by
  refine (sidesC _ _ w (by decide) (by decide)).mono ?_
  rintro e w' ⟨rfl, hb⟩
  exact ⟨by kernel_rfl, hb⟩
theorem sides_padding (w : World) : Calls Tryz.prog 181 #[.string { data := #[112, 97, 100, 100, 105, 110, 103] }, .string { data := #[] }] w fun e w' => e = .returned (.agg #[.string { data := #[112, 97, 100, 100, 105, 110, 103, 45, 116, 111, 112] }, .string { data := #[112, 97, 100, 100, 105, 110, 103, 45, 114, 105, 103, 104, 116] }, .string { data := #[112, 97, 100, 100, 105, 110, 103, 45, 98, 111, 116, 116, 111, 109] }, .string { data := #[112, 97, 100, 100, 105, 110, 103, 45, 108, 101, 102, 116] }]) ∧ Below w.heap.size w w' := by
  refine (sidesC _ _ w (by decide) (by decide)).mono ?_
  rintro e w' ⟨rfl, hb⟩
  exact ⟨by kernel_rfl, hb⟩
theorem sides_border (w : World) : Calls Tryz.prog 181 #[.string { data := #[98, 111, 114, 100, 101, 114] }, .string { data := #[45, 119, 105, 100, 116, 104] }] w fun e w' => e = .returned (.agg #[.string { data := #[98, 111, 114, 100, 101, 114, 45, 116, 111, 112, 45, 119, 105, 100, 116, 104] }, .string { data := #[98, 111, 114, 100, 101, 114, 45, 114, 105, 103, 104, 116, 45, 119, 105, 100, 116, 104] }, .string { data := #[98, 111, 114, 100, 101, 114, 45, 98, 111, 116, 116, 111, 109, 45, 119, 105, 100, 116, 104] }, .string { data := #[98, 111, 114, 100, 101, 114, 45, 108, 101, 102, 116, 45, 119, 105, 100, 116, 104] }]) ∧ Below w.heap.size w w' := by
  refine (sidesC _ _ w (by decide) (by decide)).mono ?_
  rintro e w' ⟨rfl, hb⟩
  exact ⟨by kernel_rfl, hb⟩

def sideS (a b : Bool) (nm : List (List UInt8)) : List (List Value) := nm.map fun s => srt s a true false b false false nilS 2 0
def upto (k : Nat) (l : List (List Value)) : List (List Value) := l.take k ++ four.drop k
/-- the table, behind k rounds -/
def SA (k : Nat) (b1 b2 b3 b4 : Nat) : Array Value := arrOf (sortsL [119, 105, 100, 116, 104] [104, 101, 105, 103, 104, 116] (upto k (sideS true true nmMargin)) (upto k (sideS false false nmPadding)) (upto k (sideS false false nmBorder)) b1 b2 b3 b4)
structure SortsMid2 (w wc : World) (g0 g1 g4 g5 g6 g7 : Nat) (tab : Array Value) (b1 b2 b3 b4 : Nat) : Prop where
  h0 : wc.heap[g0]? = some (.cells z95 191 (0, 0))
  h1 : wc.heap[g1]? = some (.cells #[.int .i64 2, .int .i64 0] 109 (0, 0))
  h4 : wc.heap[g4]? = some (.cells tab 191 (0, 0))
  h5 : WordRow' wc g5 74 nmMargin
  h6 : WordRow' wc g6 74 nmPadding
  h7 : WordRow' wc g7 74 nmBorder
  n0 : w.heap.size ≤ g0
  n4 : w.heap.size ≤ g4
  e04 : g0 ≠ g4
  e14 : g1 ≠ g4
  e54 : g5 ≠ g4
  e64 : g6 ≠ g4
  e74 : g7 ≠ g4
  q : b1 ≠ g0 ∧ b2 ≠ g0 ∧ b3 ≠ g0 ∧ b4 ≠ g0
  words : SortWords w wc b1 b2 b3 b4
  below : Below w.heap.size w wc
structure SortsMid (w wc : World) (g0 g1 g4 b1 b2 b3 b4 : Nat) : Prop where
  h0 : wc.heap[g0]? = some (.cells z95 191 (0, 0))
  h1 : wc.heap[g1]? = some (.cells #[.int .i64 2, .int .i64 0] 109 (0, 0))
  h4 : wc.heap[g4]? = some (.cells (arrOf (sortsL [] [] four four four b1 b2 b3 b4)) 191 (0, 0))
  n1 : w.heap.size ≤ g0
  n2 : g0 < g1
  n3 : g1 < g4
  words : SortWords w wc b1 b2 b3 b4
  o1 : b1 < g4
  o2 : b2 < g4
  o3 : b3 < g4
  o4 : b4 < g4
  q : b1 ≠ g0 ∧ b2 ≠ g0 ∧ b3 ≠ g0 ∧ b4 ≠ g0
  below : Below w.heap.size w wc
def set10 (cur : Array Value) (o : Nat) (v0 v1 v2 v3 v4 v5 v6 v7 v8 v9 : Value) : Array Value :=
  (((((((((cur.setIfInBounds o v0).setIfInBounds (o + 1) v1).setIfInBounds (o + 2) v2).setIfInBounds (o + 3) v3).setIfInBounds (o + 4) v4).setIfInBounds (o + 5) v5).setIfInBounds (o + 6) v6).setIfInBounds (o + 7) v7).setIfInBounds (o + 8) v8).setIfInBounds (o + 9) v9
theorem size_set10 (cur : Array Value) (o : Nat) (v0 v1 v2 v3 v4 v5 v6 v7 v8 v9 : Value) : (set10 cur o v0 v1 v2 v3 v4 v5 v6 v7 v8 v9).size = cur.size := by simp [set10]
def put10 (W : World) (g o : Nat) (v0 v1 v2 v3 v4 v5 v6 v7 v8 v9 : Value) : World :=
  ((((((((((W.setCell ⟨g, o, none⟩ v0).setCell ⟨g, o + 1, none⟩ v1).setCell ⟨g, o + 2, none⟩ v2).setCell ⟨g, o + 3, none⟩ v3).setCell ⟨g, o + 4, none⟩ v4).setCell ⟨g, o + 5, none⟩ v5).setCell ⟨g, o + 6, none⟩ v6).setCell ⟨g, o + 7, none⟩ v7).setCell ⟨g, o + 8, none⟩ v8).setCell ⟨g, o + 9, none⟩ v9).drew
theorem put10_row {W : World} {g : Nat} {cur : Array Value} {t : TypeId} (h : W.heap[g]? = some (.cells cur t (0, 0))) (o : Nat) (v0 v1 v2 v3 v4 v5 v6 v7 v8 v9 : Value) :
    (put10 W g o v0 v1 v2 v3 v4 v5 v6 v7 v8 v9).heap[g]? = some (.cells (set10 cur o v0 v1 v2 v3 v4 v5 v6 v7 v8 v9) t (0, 0)) := by
  unfold put10 set10
  rw [heap_drew]
  iterate 10 apply heap_setCell_same
  exact h
theorem put10_other (W : World) (g o : Nat) (v0 v1 v2 v3 v4 v5 v6 v7 v8 v9 : Value) (i : Nat) (hi : i ≠ g) : (put10 W g o v0 v1 v2 v3 v4 v5 v6 v7 v8 v9).heap[i]? = W.heap[i]? := by
  unfold put10
  rw [heap_drew]
  iterate 10 rw [heap_setCell_other _ _ _ _ hi]
theorem put10_below {B : Nat} {w W : World} (h : Below B w W) (g o : Nat) (hg : B ≤ g) (v0 v1 v2 v3 v4 v5 v6 v7 v8 v9 : Value) : Below B w (put10 W g o v0 v1 v2 v3 v4 v5 v6 v7 v8 v9) :=
  ((((((((((h.setCell (by exact hg) _).setCell (by exact hg) _).setCell (by exact hg) _).setCell (by exact hg) _).setCell (by exact hg) _).setCell (by exact hg) _).setCell (by exact hg) _).setCell (by exact hg) _).setCell (by exact hg) _).setCell (by exact hg) _).drew
theorem SortsMid2.put {w W : World} {g0 g1 g4 g5 g6 g7 : Nat} {tab : Array Value} {b1 b2 b3 b4 : Nat} (h : SortsMid2 w W g0 g1 g4 g5 g6 g7 tab b1 b2 b3 b4) (hw : b1 ≠ g4 ∧ b2 ≠ g4 ∧ b3 ≠ g4 ∧ b4 ≠ g4) (o : Nat) (v0 v1 v2 v3 v4 v5 v6 v7 v8 v9 : Value) :
    SortsMid2 w (put10 W g4 o v0 v1 v2 v3 v4 v5 v6 v7 v8 v9) g0 g1 g4 g5 g6 g7 (set10 tab o v0 v1 v2 v3 v4 v5 v6 v7 v8 v9) b1 b2 b3 b4 where
  h0 := (put10_other W g4 o v0 v1 v2 v3 v4 v5 v6 v7 v8 v9 g0 h.e04).trans h.h0
  h1 := (put10_other W g4 o v0 v1 v2 v3 v4 v5 v6 v7 v8 v9 g1 h.e14).trans h.h1
  h4 := put10_row h.h4 o v0 v1 v2 v3 v4 v5 v6 v7 v8 v9
  h5 := (put10_other W g4 o v0 v1 v2 v3 v4 v5 v6 v7 v8 v9 g5 h.e54).trans h.h5
  h6 := (put10_other W g4 o v0 v1 v2 v3 v4 v5 v6 v7 v8 v9 g6 h.e64).trans h.h6
  h7 := (put10_other W g4 o v0 v1 v2 v3 v4 v5 v6 v7 v8 v9 g7 h.e74).trans h.h7
  n0 := h.n0
  n4 := h.n4
  e04 := h.e04
  e14 := h.e14
  e54 := h.e54
  e64 := h.e64
  e74 := h.e74
  q := h.q
  words := ⟨(put10_other W g4 o v0 v1 v2 v3 v4 v5 v6 v7 v8 v9 b1 hw.1).trans h.words.r1, (put10_other W g4 o v0 v1 v2 v3 v4 v5 v6 v7 v8 v9 b2 hw.2.1).trans h.words.r2, (put10_other W g4 o v0 v1 v2 v3 v4 v5 v6 v7 v8 v9 b3 hw.2.2.1).trans h.words.r3, (put10_other W g4 o v0 v1 v2 v3 v4 v5 v6 v7 v8 v9 b4 hw.2.2.2).trans h.words.r4, h.words.m1, h.words.m2, h.words.m3, h.words.m4⟩
  below := put10_below h.below g4 o h.n4 v0 v1 v2 v3 v4 v5 v6 v7 v8 v9
theorem cell_ex {W : World} {g : Nat} {cur : Array Value} {t : TypeId} (h : W.heap[g]? = some (.cells cur t (0, 0))) (o : Nat) (ho : o < cur.size) : ∃ v, W.cell? ⟨g, o, none⟩ = some v :=
  ⟨cur[o], by rw [cell_of_row W g o cur t _ h, Array.getElem?_eq_getElem ho]⟩
theorem size_SA (k b1 b2 b3 b4 : Nat) (hk : k ≤ 4) : (SA k b1 b2 b3 b4).size = 270 := by
  obtain rfl | rfl | rfl | rfl | rfl : k = 0 ∨ k = 1 ∨ k = 2 ∨ k = 3 ∨ k = 4 := by omega
  all_goals kernel_rfl
theorem all_SA4 (b1 b2 b3 b4 : Nat) : (SA 4 b1 b2 b3 b4).all (·.oneCell') = true := by kernel_rfl
theorem SortWords.setRow {w W : World} {b1 b2 b3 b4 g : Nat} (h : SortWords w W b1 b2 b3 b4) (q : b1 ≠ g ∧ b2 ≠ g ∧ b3 ≠ g ∧ b4 ≠ g) (cs : Array Value) : SortWords w (W.setRow g cs) b1 b2 b3 b4 :=
  ⟨(setRow_other W g b1 cs q.1).trans h.r1, (setRow_other W g b2 cs q.2.1).trans h.r2, (setRow_other W g b3 cs q.2.2.1).trans h.r3, (setRow_other W g b4 cs q.2.2.2).trans h.r4, h.m1, h.m2, h.m3, h.m4⟩
theorem below_setRow {B : Nat} {w W : World} (h : Below B w W) (g : Nat) (cs : Array Value) (hg : B ≤ g) : Below B w (W.setRow g cs) :=
  ⟨h.os, h.tape, h.output, by rw [setRow_size]; exact h.size, fun i hi => (setRow_other W g i cs (by omega)).trans (h.block i hi)⟩
def nmAt (l : List (List UInt8)) (k : Nat) : ByteArray := ⟨(l.getD k []).toArray⟩
theorem wordAt {W : World} {g t : Nat} {l : List (List UInt8)} (h : WordRow' W g t l) (k : Nat) (hk : k < l.length) : W.cell? ⟨g, k, none⟩ = some (.string (nmAt l k)) := by
  rw [cell_of_row W g k _ _ _ h]
  simp [nmAt, List.getD, hk]
theorem SA_step (k b1 b2 b3 b4 : Nat) (hk : k < 4) :
    set10 (set10 (set10 (SA k b1 b2 b3 b4) ((4 + k) * 10) (.string (nmAt nmMargin k)) TT TT FF TT FF FF (.slice none 0 0) (.int .i64 2) (.int .i64 0)) ((8 + k) * 10) (.string (nmAt nmPadding k)) FF TT FF FF FF FF (.slice none 0 0) (.int .i64 2) (.int .i64 0)) ((12 + k) * 10) (.string (nmAt nmBorder k)) FF TT FF FF FF FF (.slice none 0 0) (.int .i64 2) (.int .i64 0) = SA (k + 1) b1 b2 b3 b4 := by
  obtain rfl | rfl | rfl | rfl : k = 0 ∨ k = 1 ∨ k = 2 ∨ k = 3 := by omega
  all_goals kernel_rfl
theorem alloc_get (w : World) (o : Obj) (i : Nat) : (w.alloc o).heap[i]? = if i = w.heap.size then some o else w.heap[i]? := Array.getElem?_push
theorem alloc_size (w : World) (o : Obj) : (w.alloc o).heap.size = w.heap.size + 1 := Array.size_push _
set_option maxHeartbeats 4000000 in
theorem sortsMid_new (w : World) : SortsMid w ((((((((((w.alloc (Obj.cells z95 191)).alloc (Obj.cells #[.int .i64 2, .int .i64 0] 109)).alloc (Obj.cells #[.string { data := #[] }, .bool true, .bool true, .bool true, .bool false, .bool false, .bool false, .slice none 0 0, .int .i64 1, .int .i64 0] 163)).alloc (Obj.cells #[.int .i64 6, .int .i64 64] 109)).alloc
    (Obj.cells #[.string { data := #[98, 108, 111, 99, 107] }, .string { data := #[105, 110, 108, 105, 110, 101] }, .string { data := #[102, 108, 101, 120] }, .string { data := #[110, 111, 110, 101] }] 9)).alloc (Obj.cells #[.string { data := #[108, 101, 102, 116] }, .string { data := #[99, 101, 110, 116, 101, 114] }, .string { data := #[114, 105, 103, 104, 116] }] 9)).alloc (Obj.cells #[.string { data := #[114, 111, 119] }, .string { data := #[99, 111, 108, 117, 109, 110] }] 9)).alloc (Obj.cells #[.string { data := #[115, 116, 97, 114, 116] }, .string { data := #[99, 101, 110, 116, 101, 114] }, .string { data := #[101, 110, 100] }, .string { data := #[98, 101, 116, 119, 101, 101, 110] }] 9)).alloc (Obj.cells z95 191)).setRow (w.heap.size + 1 + 1 + 1 + 1 + 1 + 1 + 1 + 1) (arrOf (sortsL [] [] four four four (w.heap.size + 1 + 1 + 1 + 1) (w.heap.size + 1 + 1 + 1 + 1 + 1) (w.heap.size + 1 + 1 + 1 + 1 + 1 + 1) (w.heap.size + 1 + 1 + 1 + 1 + 1 + 1 + 1))))
    w.heap.size (w.heap.size + 1) (w.heap.size + 1 + 1 + 1 + 1 + 1 + 1 + 1 + 1) (w.heap.size + 1 + 1 + 1 + 1) (w.heap.size + 1 + 1 + 1 + 1 + 1) (w.heap.size + 1 + 1 + 1 + 1 + 1 + 1) (w.heap.size + 1 + 1 + 1 + 1 + 1 + 1 + 1) where
  h0 := by rw [setRow_other _ _ _ _ (by omega)]; simp only [alloc_get, alloc_size]; (repeat' (first | omega | (exact absurd trivial (by assumption)) | split | rfl))
  h1 := by rw [setRow_other _ _ _ _ (by omega)]; simp only [alloc_get, alloc_size]; (repeat' (first | omega | (exact absurd trivial (by assumption)) | split | rfl))
  h4 := setRow_heap _ _ z95 _ 191 (0, 0) (by simp only [alloc_get, alloc_size]; (repeat' (first | omega | (exact absurd trivial (by assumption)) | split | rfl)))
  n1 := Nat.le_refl _
  n2 := by omega
  n3 := by omega
  words := ⟨by unfold WordRow'; rw [setRow_other _ _ _ _ (by omega)]; simp only [alloc_get, alloc_size]; (repeat' (first | omega | (exact absurd trivial (by assumption)) | split | rfl)),
    by unfold WordRow'; rw [setRow_other _ _ _ _ (by omega)]; simp only [alloc_get, alloc_size]; (repeat' (first | omega | (exact absurd trivial (by assumption)) | split | rfl)),
    by unfold WordRow'; rw [setRow_other _ _ _ _ (by omega)]; simp only [alloc_get, alloc_size]; (repeat' (first | omega | (exact absurd trivial (by assumption)) | split | rfl)),
    by unfold WordRow'; rw [setRow_other _ _ _ _ (by omega)]; simp only [alloc_get, alloc_size]; (repeat' (first | omega | (exact absurd trivial (by assumption)) | split | rfl)),
    by omega, by omega, by omega, by omega⟩
  o1 := by omega
  o2 := by omega
  o3 := by omega
  o4 := by omega
  q := by omega
  below := by
    refine below_setRow ?_ _ _ (by omega)
    iterate 9 refine Below.alloc ?_ (by first | (simp only [alloc_size]; omega) | omega) _
    exact Below.refl _ _
theorem lt_get {w : World} {i : Nat} {o : Obj} (h : w.heap[i]? = some o) : i < w.heap.size := (Array.getElem?_eq_some_iff.1 h).1
theorem setc_size (W : World) (a : Addr) (v : Value) : (W.setCell a v).heap.size = W.heap.size := by simp
theorem SA0_eq (b1 b2 b3 b4 : Nat) : ((arrOf (sortsL [] [] four four four b1 b2 b3 b4)).setIfInBounds 20 (.string { data := #[119, 105, 100, 116, 104] })).setIfInBounds 30 (.string { data := #[104, 101, 105, 103, 104, 116] }) = SA 0 b1 b2 b3 b4 := by kernel_rfl
set_option maxHeartbeats 4000000 in
theorem sortsMid2_new {w wc w1 w2 w3 : World} {g0 g1 g4 b1 b2 b3 b4 : Nat} (hm : SortsMid w wc g0 g1 g4 b1 b2 b3 b4)
    (hb1 : Below ((wc.setCell ⟨g4, 20, none⟩ (.string { data := #[119, 105, 100, 116, 104] })).setCell ⟨g4, 30, none⟩ (.string { data := #[104, 101, 105, 103, 104, 116] })).heap.size ((wc.setCell ⟨g4, 20, none⟩ (.string { data := #[119, 105, 100, 116, 104] })).setCell ⟨g4, 30, none⟩ (.string { data := #[104, 101, 105, 103, 104, 116] })) w1)
    (hb2 : Below w1.heap.size w1 w2) (hb3 : Below w2.heap.size w2 w3) :
    SortsMid2 w (((w3.alloc (Obj.cells #[.string { data := #[109, 97, 114, 103, 105, 110, 45, 116, 111, 112] }, .string { data := #[109, 97, 114, 103, 105, 110, 45, 114, 105, 103, 104, 116] }, .string { data := #[109, 97, 114, 103, 105, 110, 45, 98, 111, 116, 116, 111, 109] }, .string { data := #[109, 97, 114, 103, 105, 110, 45, 108, 101, 102, 116] }] 74)).alloc (Obj.cells #[.string { data := #[112, 97, 100, 100, 105, 110, 103, 45, 116, 111, 112] }, .string { data := #[112, 97, 100, 100, 105, 110, 103, 45, 114, 105, 103, 104, 116] }, .string { data := #[112, 97, 100, 100, 105, 110, 103, 45, 98, 111, 116, 116, 111, 109] }, .string { data := #[112, 97, 100, 100, 105, 110, 103, 45, 108, 101, 102, 116] }] 74)).alloc (Obj.cells #[.string { data := #[98, 111, 114, 100, 101, 114, 45, 116, 111, 112, 45, 119, 105, 100, 116, 104] }, .string { data := #[98, 111, 114, 100, 101, 114, 45, 114, 105, 103, 104, 116, 45, 119, 105, 100, 116, 104] }, .string { data := #[98, 111, 114, 100, 101, 114, 45, 98, 111, 116, 116, 111, 109, 45, 119, 105, 100, 116, 104] }, .string { data := #[98, 111, 114, 100, 101, 114, 45, 108, 101, 102, 116, 45, 119, 105, 100, 116, 104] }] 74)) g0 g1 g4 w3.heap.size (w3.heap.size + 1) (w3.heap.size + 1 + 1) (SA 0 b1 b2 b3 b4) b1 b2 b3 b4 := by
  have s1 := hb1.size
  rw [setc_size, setc_size] at s1
  have s2 := hb2.size
  have s3 := hb3.size
  have key : ∀ i, i < wc.heap.size → (((w3.alloc (Obj.cells #[.string { data := #[109, 97, 114, 103, 105, 110, 45, 116, 111, 112] }, .string { data := #[109, 97, 114, 103, 105, 110, 45, 114, 105, 103, 104, 116] }, .string { data := #[109, 97, 114, 103, 105, 110, 45, 98, 111, 116, 116, 111, 109] }, .string { data := #[109, 97, 114, 103, 105, 110, 45, 108, 101, 102, 116] }] 74)).alloc (Obj.cells #[.string { data := #[112, 97, 100, 100, 105, 110, 103, 45, 116, 111, 112] }, .string { data := #[112, 97, 100, 100, 105, 110, 103, 45, 114, 105, 103, 104, 116] }, .string { data := #[112, 97, 100, 100, 105, 110, 103, 45, 98, 111, 116, 116, 111, 109] }, .string { data := #[112, 97, 100, 100, 105, 110, 103, 45, 108, 101, 102, 116] }] 74)).alloc (Obj.cells #[.string { data := #[98, 111, 114, 100, 101, 114, 45, 116, 111, 112, 45, 119, 105, 100, 116, 104] }, .string { data := #[98, 111, 114, 100, 101, 114, 45, 114, 105, 103, 104, 116, 45, 119, 105, 100, 116, 104] }, .string { data := #[98, 111, 114, 100, 101, 114, 45, 98, 111, 116, 116, 111, 109, 45, 119, 105, 100, 116, 104] }, .string { data := #[98, 111, 114, 100, 101, 114, 45, 108, 101, 102, 116, 45, 119, 105, 100, 116, 104] }] 74)).heap[i]? = ((wc.setCell ⟨g4, 20, none⟩ (.string { data := #[119, 105, 100, 116, 104] })).setCell ⟨g4, 30, none⟩ (.string { data := #[104, 101, 105, 103, 104, 116] })).heap[i]? := fun i hi => by
    simp only [alloc_get, alloc_size]
    rw [if_neg (by omega), if_neg (by omega), if_neg (by omega), hb3.block i (by omega), hb2.block i (by omega), hb1.block i (by rw [setc_size, setc_size]; exact hi)]
  have key2 : ∀ i, i < wc.heap.size → i ≠ g4 → (((w3.alloc (Obj.cells #[.string { data := #[109, 97, 114, 103, 105, 110, 45, 116, 111, 112] }, .string { data := #[109, 97, 114, 103, 105, 110, 45, 114, 105, 103, 104, 116] }, .string { data := #[109, 97, 114, 103, 105, 110, 45, 98, 111, 116, 116, 111, 109] }, .string { data := #[109, 97, 114, 103, 105, 110, 45, 108, 101, 102, 116] }] 74)).alloc (Obj.cells #[.string { data := #[112, 97, 100, 100, 105, 110, 103, 45, 116, 111, 112] }, .string { data := #[112, 97, 100, 100, 105, 110, 103, 45, 114, 105, 103, 104, 116] }, .string { data := #[112, 97, 100, 100, 105, 110, 103, 45, 98, 111, 116, 116, 111, 109] }, .string { data := #[112, 97, 100, 100, 105, 110, 103, 45, 108, 101, 102, 116] }] 74)).alloc (Obj.cells #[.string { data := #[98, 111, 114, 100, 101, 114, 45, 116, 111, 112, 45, 119, 105, 100, 116, 104] }, .string { data := #[98, 111, 114, 100, 101, 114, 45, 114, 105, 103, 104, 116, 45, 119, 105, 100, 116, 104] }, .string { data := #[98, 111, 114, 100, 101, 114, 45, 98, 111, 116, 116, 111, 109, 45, 119, 105, 100, 116, 104] }, .string { data := #[98, 111, 114, 100, 101, 114, 45, 108, 101, 102, 116, 45, 119, 105, 100, 116, 104] }] 74)).heap[i]? = wc.heap[i]? := fun i hi hn => by
    rw [key i hi, heap_setCell_other _ _ _ _ hn, heap_setCell_other _ _ _ _ hn]
  have l0 := lt_get hm.h0
  have l1 := lt_get hm.h1
  have l4 := lt_get hm.h4
  have n1 := hm.n1
  have n2 := hm.n2
  have n3 := hm.n3
  have o1 := hm.o1
  have o2 := hm.o2
  have o3 := hm.o3
  have o4 := hm.o4
  have m1 := hm.words.m1
  have m2 := hm.words.m2
  have m3 := hm.words.m3
  have m4 := hm.words.m4
  have q := hm.q
  refine { h0 := (key2 g0 l0 (by omega)).trans hm.h0, h1 := (key2 g1 l1 (by omega)).trans hm.h1, h4 := ?_, h5 := ?_, h6 := ?_, h7 := ?_, n0 := n1, n4 := by omega, e04 := by omega, e14 := by omega, e54 := by omega, e64 := by omega, e74 := by omega, q := q, words := ?_, below := ?_ }
  · rw [key g4 l4, heap_setCell_same _ _ _ _ 191 _ (heap_setCell_same _ _ _ _ 191 _ hm.h4), SA0_eq]
  · unfold WordRow'; simp only [alloc_get, alloc_size]; (repeat' (first | omega | (exact absurd trivial (by assumption)) | split | rfl))
  · unfold WordRow'; simp only [alloc_get, alloc_size]; (repeat' (first | omega | (exact absurd trivial (by assumption)) | split | rfl))
  · unfold WordRow'; simp only [alloc_get, alloc_size]; (repeat' (first | omega | (exact absurd trivial (by assumption)) | split | rfl))
  · exact ⟨(key2 b1 (by omega) (by omega)).trans hm.words.r1, (key2 b2 (by omega) (by omega)).trans hm.words.r2, (key2 b3 (by omega) (by omega)).trans hm.words.r3, (key2 b4 (by omega) (by omega)).trans hm.words.r4, m1, m2, m3, m4⟩
  · have hbs := hm.below.size
    have p1 : Below w.heap.size w ((wc.setCell ⟨g4, 20, none⟩ (.string { data := #[119, 105, 100, 116, 104] })).setCell ⟨g4, 30, none⟩ (.string { data := #[104, 101, 105, 103, 104, 116] })) := (hm.below.setCell (show w.heap.size ≤ g4 by omega) _).setCell (show w.heap.size ≤ g4 by omega) _
    have p2 := p1.trans (hb1.mono (by rw [setc_size, setc_size]; omega))
    have p3 := p2.trans (hb2.mono (by omega))
    have p4 := p3.trans (hb3.mono (by omega))
    refine ((p4.alloc (by omega) _).alloc (by rw [alloc_size]; omega) _).alloc (by rw [alloc_size, alloc_size]; omega) _
end Go.Proofs
set_option linter.unusedVariables false
set_option linter.unusedSimpArgs false
namespace Go.Proofs
open Go.RowKit
set_option maxRecDepth 100000 in
set_option maxHeartbeats 4000000 in
theorem sortsC (w : World) :
    Calls Tryz.prog 147 #[] w fun e w' => ∃ b1 b2 b3 b4, e = .returned (.agg (SA 4 b1 b2 b3 b4)) ∧ SortWords w w' b1 b2 b3 b4 ∧ Below w.heap.size w w' := by
  have hz := zero95
  go_enter Tryz.func147, Tryz.ntmps147
  go_upto_region 4 with (fail)
  go_cut [0, 1, 4] (fun v0 v1 v4 wc => ∃ (g0 g1 g4 b1 b2 b3 b4 : Nat), v0 = .pointer (some ⟨g0, 0, none⟩) ∧ v1 = .pointer (some ⟨g1, 0, none⟩) ∧ v4 = .pointer (some ⟨g4, 0, none⟩) ∧ SortsMid w wc g0 g1 g4 b1 b2 b3 b4)
  case first =>
    go_wp2_with (first
      | (refine wpList_build_to rfl 191 _ rfl (built95 _ _ _ _) rfl ?_)
      | (refine wpList_store_row rfl 191 _ _ rfl _ _ rfl rfl 191 z95 (heap_alloc_at _ _ ?_) (info95.trans (congrArg some (size_arrOf0 _ _ _ _).symm)) (size_z95.trans (size_arrOf0 _ _ _ _).symm) (all_arrOf0 _ _ _ _) ?_; · simp))
    go_frame
    go_meet
    case rel => exact ⟨_, _, _, _, _, _, _, rfl, rfl, rfl, sortsMid_new w⟩
  case rest =>
    obtain ⟨g0, g1, g4, b1, b2, b3, b4, rfl, rfl, rfl, hm⟩ := hcut
    have cc : wc.cell? ⟨g4, 20, none⟩ = some S0 ∧ wc.cell? ⟨g4, 30, none⟩ = some S0 ∧ wc.frozen? ⟨g4, 20, none⟩ = false ∧ wc.frozen? ⟨g4, 30, none⟩ = false :=
      ⟨(cell_of_row wc g4 20 _ _ _ hm.h4).trans (by kernel_rfl), (cell_of_row wc g4 30 _ _ _ hm.h4).trans (by kernel_rfl), frozen_of_row wc g4 20 _ _ hm.h4, frozen_of_row wc g4 30 _ _ hm.h4⟩
    obtain ⟨c40, c41, f40, f41⟩ := cc
    have hwne : b1 ≠ g4 ∧ b2 ≠ g4 ∧ b3 ≠ g4 ∧ b4 ≠ g4 := ⟨by have := hm.o1; omega, by have := hm.o2; omega, by have := hm.o3; omega, by have := hm.o4; omega⟩
    clear hz
    go_upto_region 6 with (fail)
    go_cut [0, 1, 4, 5, 6, 7] (fun v0 v1 v4 v5 v6 v7 wd => ∃ (g5 g6 g7 : Nat), v0 = .pointer (some ⟨g0, 0, none⟩) ∧ v1 = .pointer (some ⟨g1, 0, none⟩) ∧ v4 = .pointer (some ⟨g4, 0, none⟩) ∧ v5 = .pointer (some ⟨g5, 0, none⟩) ∧ v6 = .pointer (some ⟨g6, 0, none⟩) ∧ v7 = .pointer (some ⟨g7, 0, none⟩) ∧ SortsMid2 w wd g0 g1 g4 g5 g6 g7 (SA 0 b1 b2 b3 b4) b1 b2 b3 b4)
    case first =>
      go_wp2_with (first | (go_at_call 181; (with_reducible refine (sides_margin _).mono ?_); rintro e w1 ⟨rfl, hb1⟩) | (go_at_call 181; (with_reducible refine (sides_padding _).mono ?_); rintro e w2 ⟨rfl, hb2⟩) | (go_at_call 181; (with_reducible refine (sides_border _).mono ?_); rintro e w3 ⟨rfl, hb3⟩))
      go_meet
      case rel => exact ⟨_, _, _, rfl, rfl, rfl, rfl, rfl, rfl, sortsMid2_new hm hb1 hb2 hb3⟩
    case rest =>
      obtain ⟨g5, g6, g7, rfl, rfl, rfl, rfl, rfl, rfl, hm2⟩ := hcut
      clear c40 c41 f40 f41 hm
      go_wp2_with fail
      go_loopw [51] (fun i wr => ∃ k : Nat, k ≤ 4 ∧ i = .int .i64 k ∧ SortsMid2 w wr g0 g1 g4 g5 g6 g7 (SA k b1 b2 b3 b4) b1 b2 b3 b4) (fun i _ => 4 - (intOf i).toNat)
      case atStart => exact ⟨0, by omega, rfl, hm2⟩
      case round =>
        obtain ⟨k, hk, rfl, hr⟩ := hrel
        by_cases hlt : k < 4
        · have zA := size_SA k b1 b2 b3 b4 hk
          have HWN := Lib.hid hwne
          clear hwne hm2
          go_upto_region 10 with (fail)
          go_cut [] (fun wx => SortsMid2 w wx g0 g1 g4 g5 g6 g7 (set10 (SA k b1 b2 b3 b4) ((4 + k) * 10) (.string (nmAt nmMargin k)) TT TT FF TT FF FF (.slice none 0 0) (.int .i64 2) (.int .i64 0)) b1 b2 b3 b4)
          case first =>
            have c5 := wordAt hr.h5 k hlt
            have c1 : wr.cell? ⟨g1, 0, none⟩ = some (.int .i64 2) := (cell_of_row wr g1 0 _ _ _ hr.h1).trans rfl
            have c2 : wr.cell? ⟨g1, 1, none⟩ = some (.int .i64 0) := (cell_of_row wr g1 1 _ _ _ hr.h1).trans rfl
            obtain ⟨y4_0, e4_0⟩ := cell_ex hr.h4 ((4 + k) * 10) (by rw [zA]; omega)
            have f4_0 := frozen_of_row wr g4 ((4 + k) * 10) _ _ hr.h4
            obtain ⟨y4_1, e4_1⟩ := cell_ex hr.h4 ((4 + k) * 10 + 1) (by rw [zA]; omega)
            have f4_1 := frozen_of_row wr g4 ((4 + k) * 10 + 1) _ _ hr.h4
            obtain ⟨y4_2, e4_2⟩ := cell_ex hr.h4 ((4 + k) * 10 + 2) (by rw [zA]; omega)
            have f4_2 := frozen_of_row wr g4 ((4 + k) * 10 + 2) _ _ hr.h4
            obtain ⟨y4_3, e4_3⟩ := cell_ex hr.h4 ((4 + k) * 10 + 3) (by rw [zA]; omega)
            have f4_3 := frozen_of_row wr g4 ((4 + k) * 10 + 3) _ _ hr.h4
            obtain ⟨y4_4, e4_4⟩ := cell_ex hr.h4 ((4 + k) * 10 + 4) (by rw [zA]; omega)
            have f4_4 := frozen_of_row wr g4 ((4 + k) * 10 + 4) _ _ hr.h4
            obtain ⟨y4_5, e4_5⟩ := cell_ex hr.h4 ((4 + k) * 10 + 5) (by rw [zA]; omega)
            have f4_5 := frozen_of_row wr g4 ((4 + k) * 10 + 5) _ _ hr.h4
            obtain ⟨y4_6, e4_6⟩ := cell_ex hr.h4 ((4 + k) * 10 + 6) (by rw [zA]; omega)
            have f4_6 := frozen_of_row wr g4 ((4 + k) * 10 + 6) _ _ hr.h4
            obtain ⟨y4_7, e4_7⟩ := cell_ex hr.h4 ((4 + k) * 10 + 7) (by rw [zA]; omega)
            have f4_7 := frozen_of_row wr g4 ((4 + k) * 10 + 7) _ _ hr.h4
            obtain ⟨y4_8, e4_8⟩ := cell_ex hr.h4 ((4 + k) * 10 + 8) (by rw [zA]; omega)
            have f4_8 := frozen_of_row wr g4 ((4 + k) * 10 + 8) _ _ hr.h4
            obtain ⟨y4_9, e4_9⟩ := cell_ex hr.h4 ((4 + k) * 10 + 9) (by rw [zA]; omega)
            have f4_9 := frozen_of_row wr g4 ((4 + k) * 10 + 9) _ _ hr.h4
            clear zA
            go_region
            go_wp2
            go_meet
            case rel => exact hr.put HWN.out _ _ _ _ _ _ _ _ _ _ _
          case rest =>
            have hx := hcut
            have zB : (set10 (SA k b1 b2 b3 b4) ((4 + k) * 10) (.string (nmAt nmMargin k)) TT TT FF TT FF FF (.slice none 0 0) (.int .i64 2) (.int .i64 0)).size = 270 := (size_set10 _ _ _ _ _ _ _ _ _ _ _ _).trans zA
            clear zA
            go_upto_region 11 with (fail)
            go_cut [] (fun wy => SortsMid2 w wy g0 g1 g4 g5 g6 g7 (set10 (set10 (SA k b1 b2 b3 b4) ((4 + k) * 10) (.string (nmAt nmMargin k)) TT TT FF TT FF FF (.slice none 0 0) (.int .i64 2) (.int .i64 0)) ((8 + k) * 10) (.string (nmAt nmPadding k)) FF TT FF FF FF FF (.slice none 0 0) (.int .i64 2) (.int .i64 0)) b1 b2 b3 b4)
            case first =>
              have c5 := wordAt hx.h6 k hlt
              have c1 : wc.cell? ⟨g1, 0, none⟩ = some (.int .i64 2) := (cell_of_row wc g1 0 _ _ _ hx.h1).trans rfl
              have c2 : wc.cell? ⟨g1, 1, none⟩ = some (.int .i64 0) := (cell_of_row wc g1 1 _ _ _ hx.h1).trans rfl
              obtain ⟨y8_0, e8_0⟩ := cell_ex hx.h4 ((8 + k) * 10) (by rw [zB]; omega)
              have f8_0 := frozen_of_row wc g4 ((8 + k) * 10) _ _ hx.h4
              obtain ⟨y8_1, e8_1⟩ := cell_ex hx.h4 ((8 + k) * 10 + 1) (by rw [zB]; omega)
              have f8_1 := frozen_of_row wc g4 ((8 + k) * 10 + 1) _ _ hx.h4
              obtain ⟨y8_2, e8_2⟩ := cell_ex hx.h4 ((8 + k) * 10 + 2) (by rw [zB]; omega)
              have f8_2 := frozen_of_row wc g4 ((8 + k) * 10 + 2) _ _ hx.h4
              obtain ⟨y8_3, e8_3⟩ := cell_ex hx.h4 ((8 + k) * 10 + 3) (by rw [zB]; omega)
              have f8_3 := frozen_of_row wc g4 ((8 + k) * 10 + 3) _ _ hx.h4
              obtain ⟨y8_4, e8_4⟩ := cell_ex hx.h4 ((8 + k) * 10 + 4) (by rw [zB]; omega)
              have f8_4 := frozen_of_row wc g4 ((8 + k) * 10 + 4) _ _ hx.h4
              obtain ⟨y8_5, e8_5⟩ := cell_ex hx.h4 ((8 + k) * 10 + 5) (by rw [zB]; omega)
              have f8_5 := frozen_of_row wc g4 ((8 + k) * 10 + 5) _ _ hx.h4
              obtain ⟨y8_6, e8_6⟩ := cell_ex hx.h4 ((8 + k) * 10 + 6) (by rw [zB]; omega)
              have f8_6 := frozen_of_row wc g4 ((8 + k) * 10 + 6) _ _ hx.h4
              obtain ⟨y8_7, e8_7⟩ := cell_ex hx.h4 ((8 + k) * 10 + 7) (by rw [zB]; omega)
              have f8_7 := frozen_of_row wc g4 ((8 + k) * 10 + 7) _ _ hx.h4
              obtain ⟨y8_8, e8_8⟩ := cell_ex hx.h4 ((8 + k) * 10 + 8) (by rw [zB]; omega)
              have f8_8 := frozen_of_row wc g4 ((8 + k) * 10 + 8) _ _ hx.h4
              obtain ⟨y8_9, e8_9⟩ := cell_ex hx.h4 ((8 + k) * 10 + 9) (by rw [zB]; omega)
              have f8_9 := frozen_of_row wc g4 ((8 + k) * 10 + 9) _ _ hx.h4
              clear zB
              go_region
              go_wp2
              go_meet
              case rel => exact hx.put HWN.out _ _ _ _ _ _ _ _ _ _ _
            case rest =>
              have hy := hcut
              have zC : (set10 (set10 (SA k b1 b2 b3 b4) ((4 + k) * 10) (.string (nmAt nmMargin k)) TT TT FF TT FF FF (.slice none 0 0) (.int .i64 2) (.int .i64 0)) ((8 + k) * 10) (.string (nmAt nmPadding k)) FF TT FF FF FF FF (.slice none 0 0) (.int .i64 2) (.int .i64 0)).size = 270 := (size_set10 _ _ _ _ _ _ _ _ _ _ _ _).trans zB
              clear zB
              go_upto_region 12 with (fail)
              have c5 := wordAt hy.h7 k hlt
              have c1 : wc.cell? ⟨g1, 0, none⟩ = some (.int .i64 2) := (cell_of_row wc g1 0 _ _ _ hy.h1).trans rfl
              have c2 : wc.cell? ⟨g1, 1, none⟩ = some (.int .i64 0) := (cell_of_row wc g1 1 _ _ _ hy.h1).trans rfl
              obtain ⟨y12_0, e12_0⟩ := cell_ex hy.h4 ((12 + k) * 10) (by rw [zC]; omega)
              have f12_0 := frozen_of_row wc g4 ((12 + k) * 10) _ _ hy.h4
              obtain ⟨y12_1, e12_1⟩ := cell_ex hy.h4 ((12 + k) * 10 + 1) (by rw [zC]; omega)
              have f12_1 := frozen_of_row wc g4 ((12 + k) * 10 + 1) _ _ hy.h4
              obtain ⟨y12_2, e12_2⟩ := cell_ex hy.h4 ((12 + k) * 10 + 2) (by rw [zC]; omega)
              have f12_2 := frozen_of_row wc g4 ((12 + k) * 10 + 2) _ _ hy.h4
              obtain ⟨y12_3, e12_3⟩ := cell_ex hy.h4 ((12 + k) * 10 + 3) (by rw [zC]; omega)
              have f12_3 := frozen_of_row wc g4 ((12 + k) * 10 + 3) _ _ hy.h4
              obtain ⟨y12_4, e12_4⟩ := cell_ex hy.h4 ((12 + k) * 10 + 4) (by rw [zC]; omega)
              have f12_4 := frozen_of_row wc g4 ((12 + k) * 10 + 4) _ _ hy.h4
              obtain ⟨y12_5, e12_5⟩ := cell_ex hy.h4 ((12 + k) * 10 + 5) (by rw [zC]; omega)
              have f12_5 := frozen_of_row wc g4 ((12 + k) * 10 + 5) _ _ hy.h4
              obtain ⟨y12_6, e12_6⟩ := cell_ex hy.h4 ((12 + k) * 10 + 6) (by rw [zC]; omega)
              have f12_6 := frozen_of_row wc g4 ((12 + k) * 10 + 6) _ _ hy.h4
              obtain ⟨y12_7, e12_7⟩ := cell_ex hy.h4 ((12 + k) * 10 + 7) (by rw [zC]; omega)
              have f12_7 := frozen_of_row wc g4 ((12 + k) * 10 + 7) _ _ hy.h4
              obtain ⟨y12_8, e12_8⟩ := cell_ex hy.h4 ((12 + k) * 10 + 8) (by rw [zC]; omega)
              have f12_8 := frozen_of_row wc g4 ((12 + k) * 10 + 8) _ _ hy.h4
              obtain ⟨y12_9, e12_9⟩ := cell_ex hy.h4 ((12 + k) * 10 + 9) (by rw [zC]; omega)
              have f12_9 := frozen_of_row wc g4 ((12 + k) * 10 + 9) _ _ hy.h4
              have HY := Lib.hid hy
              clear hy hx hr hcut zC
              go_region
              go_wp2
              go_roundw
              case rel =>
                have hz := HY.out.put HWN.out ((12 + k) * 10) (.string (nmAt nmBorder k)) FF TT FF FF FF FF (.slice none 0 0) (.int .i64 2) (.int .i64 0)
                rw [SA_step k b1 b2 b3 b4 hlt] at hz
                exact ⟨k + 1, by omega, by go_num, hz⟩
              case measure => simp [intOf]; omega
        · obtain rfl : k = 4 := by omega
          clear hm2
          go_wp2_with (first | (refine wpList_load_row rfl 191 _ rfl g4 rfl 191 _ _ _ hr.h4 Tryz.underlying191 rfl (info95.trans (congrArg some (size_SA 4 b1 b2 b3 b4 (Nat.le_refl 4)).symm)) ?_) | (refine wpList_store_row rfl 191 _ _ rfl g0 (SA 4 b1 b2 b3 b4) rfl rfl 191 z95 hr.h0 (info95.trans (congrArg some (size_SA 4 b1 b2 b3 b4 (Nat.le_refl 4)).symm)) (size_z95.trans (size_SA 4 b1 b2 b3 b4 (Nat.le_refl 4)).symm) (all_SA4 b1 b2 b3 b4) ?_))
          refine bodyPost_ret (v := .agg (SA 4 b1 b2 b3 b4)) (results_cell_row Tryz.results147 _ _ g0 191 _ _ _ rfl (setRow_heap wr g0 z95 _ 191 _ hr.h0) Tryz.underlying191 rfl (info95.trans (congrArg some (size_SA 4 b1 b2 b3 b4 (Nat.le_refl 4)).symm))) rfl ?_
          exact ⟨b1, b2, b3, b4, rfl, hr.words.setRow hr.q _, below_setRow hr.below g0 _ hr.n0⟩
end Go.Proofs
set_option linter.unusedVariables false
set_option linter.unusedSimpArgs false
namespace Go.Proofs
open Go.RowKit
/-- What a property's values are. -/
structure SortRec where
  name : ByteArray
  auto : Bool
  length : Bool
  part : Bool
  below : Bool
  color : Bool
  number : Bool
  wa : Option Addr
  wn : Nat
  k : Int
  n : Int
def recs (b1 b2 b3 b4 : Nat) : List SortRec := [⟨{ data := #[] }, false, false, false, false, false, false, none, 0, 0, 0⟩,
  ⟨{ data := #[100, 105, 115, 112, 108, 97, 121] }, false, false, false, false, false, false, some ⟨b1, 0, none⟩, 4, 5, 1⟩,
  ⟨{ data := #[119, 105, 100, 116, 104] }, true, true, true, false, false, false, none, 0, 1, 0⟩,
  ⟨{ data := #[104, 101, 105, 103, 104, 116] }, true, true, true, false, false, false, none, 0, 1, 0⟩,
  ⟨{ data := #[109, 97, 114, 103, 105, 110, 45, 116, 111, 112] }, true, true, false, true, false, false, none, 0, 2, 0⟩,
  ⟨{ data := #[109, 97, 114, 103, 105, 110, 45, 114, 105, 103, 104, 116] }, true, true, false, true, false, false, none, 0, 2, 0⟩,
  ⟨{ data := #[109, 97, 114, 103, 105, 110, 45, 98, 111, 116, 116, 111, 109] }, true, true, false, true, false, false, none, 0, 2, 0⟩,
  ⟨{ data := #[109, 97, 114, 103, 105, 110, 45, 108, 101, 102, 116] }, true, true, false, true, false, false, none, 0, 2, 0⟩,
  ⟨{ data := #[112, 97, 100, 100, 105, 110, 103, 45, 116, 111, 112] }, false, true, false, false, false, false, none, 0, 2, 0⟩,
  ⟨{ data := #[112, 97, 100, 100, 105, 110, 103, 45, 114, 105, 103, 104, 116] }, false, true, false, false, false, false, none, 0, 2, 0⟩,
  ⟨{ data := #[112, 97, 100, 100, 105, 110, 103, 45, 98, 111, 116, 116, 111, 109] }, false, true, false, false, false, false, none, 0, 2, 0⟩,
  ⟨{ data := #[112, 97, 100, 100, 105, 110, 103, 45, 108, 101, 102, 116] }, false, true, false, false, false, false, none, 0, 2, 0⟩,
  ⟨{ data := #[98, 111, 114, 100, 101, 114, 45, 116, 111, 112, 45, 119, 105, 100, 116, 104] }, false, true, false, false, false, false, none, 0, 2, 0⟩,
  ⟨{ data := #[98, 111, 114, 100, 101, 114, 45, 114, 105, 103, 104, 116, 45, 119, 105, 100, 116, 104] }, false, true, false, false, false, false, none, 0, 2, 0⟩,
  ⟨{ data := #[98, 111, 114, 100, 101, 114, 45, 98, 111, 116, 116, 111, 109, 45, 119, 105, 100, 116, 104] }, false, true, false, false, false, false, none, 0, 2, 0⟩,
  ⟨{ data := #[98, 111, 114, 100, 101, 114, 45, 108, 101, 102, 116, 45, 119, 105, 100, 116, 104] }, false, true, false, false, false, false, none, 0, 2, 0⟩,
  ⟨{ data := #[99, 111, 108, 111, 114] }, false, false, false, false, true, false, none, 0, 4, 0⟩,
  ⟨{ data := #[98, 97, 99, 107, 103, 114, 111, 117, 110, 100, 45, 99, 111, 108, 111, 114] }, false, false, false, false, true, false, none, 0, 4, 16777215⟩,
  ⟨{ data := #[102, 111, 110, 116, 45, 115, 105, 122, 101] }, false, true, false, false, false, false, none, 0, 2, 1024⟩,
  ⟨{ data := #[116, 101, 120, 116, 45, 97, 108, 105, 103, 110] }, false, false, false, false, false, false, some ⟨b2, 0, none⟩, 3, 5, 0⟩,
  ⟨{ data := #[102, 108, 101, 120, 45, 103, 114, 111, 119] }, false, false, false, false, false, true, none, 0, 6, 0⟩,
  ⟨{ data := #[102, 108, 101, 120, 45, 115, 104, 114, 105, 110, 107] }, false, false, false, false, false, true, none, 0, 6, 64⟩,
  ⟨{ data := #[102, 108, 101, 120, 45, 100, 105, 114, 101, 99, 116, 105, 111, 110] }, false, false, false, false, false, false, some ⟨b3, 0, none⟩, 2, 5, 0⟩,
  ⟨{ data := #[106, 117, 115, 116, 105, 102, 121, 45, 99, 111, 110, 116, 101, 110, 116] }, false, false, false, false, false, false, some ⟨b4, 0, none⟩, 4, 5, 0⟩,
  ⟨{ data := #[111, 114, 100, 101, 114] }, false, false, false, true, false, true, none, 0, 6, 0⟩,
  ⟨{ data := #[108, 101, 102, 116] }, false, true, false, true, false, false, none, 0, 2, 0⟩,
  ⟨{ data := #[116, 111, 112] }, false, true, false, true, false, false, none, 0, 2, 0⟩]
def recOf (p b1 b2 b3 b4 : Nat) : SortRec := (recs b1 b2 b3 b4).getD p ⟨{ data := #[] }, false, false, false, false, false, false, none, 0, 0, 0⟩
abbrev recV (r : SortRec) : Value := .agg #[.string r.name, .bool r.auto, .bool r.length, .bool r.part, .bool r.below, .bool r.color, .bool r.number, .slice r.wa r.wn r.wn, .int .i64 r.k, .int .i64 r.n]
theorem cases26 {p : Nat} (h1 : 1 ≤ p) (h2 : p ≤ 26) : p = 1 ∨ p = 2 ∨ p = 3 ∨ p = 4 ∨ p = 5 ∨ p = 6 ∨ p = 7 ∨ p = 8 ∨ p = 9 ∨ p = 10 ∨ p = 11 ∨ p = 12 ∨ p = 13 ∨ p = 14 ∨ p = 15 ∨ p = 16 ∨ p = 17 ∨ p = 18 ∨ p = 19 ∨ p = 20 ∨ p = 21 ∨ p = 22 ∨ p = 23 ∨ p = 24 ∨ p = 25 ∨ p = 26 := by omega
theorem index_SA (p : Nat) (h1 : 1 ≤ p) (h2 : p ≤ 26) : ∀ (b1 b2 b3 b4 : Nat) (w : World), (Instr.index 191 (.agg (SA 4 b1 b2 b3 b4)) (.int .i64 (p : Int))).run Tryz.prog w = .ok (recV (recOf p b1 b2 b3 b4)) w := by
  intro b1 b2 b3 b4 w
  obtain rfl | rfl | rfl | rfl | rfl | rfl | rfl | rfl | rfl | rfl | rfl | rfl | rfl | rfl | rfl | rfl | rfl | rfl | rfl | rfl | rfl | rfl | rfl | rfl | rfl | rfl := cases26 h1 h2
  all_goals kernel_rfl
theorem bcell {W w1 : World} (hb : Below W.heap.size W w1) : (∀ b o, b < W.heap.size → w1.cell? ⟨b, o, none⟩ = W.cell? ⟨b, o, none⟩) ∧ (∀ b o, b < W.heap.size → w1.frozen? ⟨b, o, none⟩ = W.frozen? ⟨b, o, none⟩) :=
  ⟨fun b o h => hb.cell (p := ⟨b, o, none⟩) h, fun b o h => hb.frozen (p := ⟨b, o, none⟩) h⟩
theorem SortWords.far {w W : World} {b1 b2 b3 b4 g : Nat} (h : SortWords w W b1 b2 b3 b4) (q : b1 ≠ g ∧ b2 ≠ g ∧ b3 ≠ g ∧ b4 ≠ g) (o : Nat) (v : Value) : SortWords w (W.setCell ⟨g, o, none⟩ v) b1 b2 b3 b4 :=
  ⟨(heap_setCell_other W ⟨g, o, none⟩ b1 v q.1).trans h.r1, (heap_setCell_other W ⟨g, o, none⟩ b2 v q.2.1).trans h.r2, (heap_setCell_other W ⟨g, o, none⟩ b3 v q.2.2.1).trans h.r3, (heap_setCell_other W ⟨g, o, none⟩ b4 v q.2.2.2).trans h.r4, h.m1, h.m2, h.m3, h.m4⟩
theorem SortWords.low {w w0 W : World} {b1 b2 b3 b4 : Nat} (h : SortWords w W b1 b2 b3 b4) (q : w0.heap.size ≤ w.heap.size) : SortWords w0 W b1 b2 b3 b4 :=
  ⟨h.r1, h.r2, h.r3, h.r4, Nat.le_trans q h.m1, Nat.le_trans q h.m2, Nat.le_trans q h.m3, Nat.le_trans q h.m4⟩
set_option maxHeartbeats 1000000 in
theorem ofC (p : Nat) (h1 : 1 ≤ p) (h2 : p ≤ 26) (w : World) :
    Calls Tryz.prog 116 #[.int .i64 (p : Int)] w fun e w' => ∃ b1 b2 b3 b4, e = .returned (.tuple #[recV (recOf p b1 b2 b3 b4), .bool true]) ∧ SortWords w w' b1 b2 b3 b4 ∧ Below w.heap.size w w' := by
  have hx := index_SA p h1 h2
  go_enter Tryz.func116, Tryz.ntmps116
  go_wp2_with (go_at_call 147; refine (sortsC _).mono ?_; rintro e w' ⟨b1, b2, b3, b4, rfl, hw, hb⟩; obtain ⟨hc, hf⟩ := bcell hb)
  have m1 := hw.m1
  have m2 := hw.m2
  have m3 := hw.m3
  have m4 := hw.m4
  rw [alloc_size] at m1 m2 m3 m4
  refine bodyPost_ret (v := .tuple #[recV (recOf p b1 b2 b3 b4), .bool true]) (by simp [results, Tryz.results116, go_sem, hc]) rfl ⟨b1, b2, b3, b4, rfl, ?_, ?_⟩
  · have q : b1 ≠ w.heap.size ∧ b2 ≠ w.heap.size ∧ b3 ≠ w.heap.size ∧ b4 ≠ w.heap.size := by omega
    iterate 10 refine SortWords.far ?_ q _ _
    exact hw.low (by rw [alloc_size]; omega)
  · have p1 : Below w.heap.size w w' := ((Below.refl _ _).alloc (Nat.le_refl _) _).trans (hb.mono (by rw [alloc_size]; omega))
    iterate 10 refine Below.setCell ?_ (by exact Nat.le_refl _) _
    exact p1
end Go.Proofs
set_option linter.unusedVariables false
set_option linter.unusedSimpArgs false
namespace Go.Proofs.Val
open Go.RowKit Go.Lib Go.Proofs.YtolfpgccebdlpaaGreatDoorW.PrintWords
theorem below_of_row {w W : World} {B : Nat} (h : Below B w W) {i : Nat} {o : Obj} (hi : w.heap[i]? = some o) (hb : i < B) : W.heap[i]? = some o := (h.block i hb).trans hi
theorem ascii_all {l : List UInt8} (h : l.all (fun b => decide (b.toNat < 128)) = true) : ∀ (j : Nat) (b : UInt8), l[j]? = some b → b.toNat < 128 := fun j b hb => of_decide_eq_true (List.all_eq_true.1 h b (List.mem_of_getElem? hb))
theorem trim_dig (s : ByteArray) (w : World) (hs : s.size < 4294967281) :
    Calls Tryz.prog 132 #[.string s, .string ⟨#[48, 49, 50, 51, 52, 53, 54, 55, 56, 57]⟩] w fun e w' => e = .returned (.string ⟨(Lib.trimS s.data.toList [48, 49, 50, 51, 52, 53, 54, 55, 56, 57]).toArray⟩) ∧ Below w.heap.size w w' :=
  Any.strings_Trim_laid Tryz.lays160 (by kernel_rfl) s ⟨#[48, 49, 50, 51, 52, 53, 54, 55, 56, 57]⟩ w (by omega) (by decide) (ascii_all (by decide))
set_option maxHeartbeats 1000000 in
theorem digits9 (w : World) : Calls Tryz.prog 183 #[.string ⟨#[57, 57, 57, 57, 57, 57, 57, 57, 57]⟩, .int .i64 9] w fun e w' => e = .returned (.bool true) ∧ Below w.heap.size w w' := by
  have hT := fun w => trim_dig ⟨#[57, 57, 57, 57, 57, 57, 57, 57, 57]⟩ w (by decide)
  rw [show Lib.trimS (⟨#[57, 57, 57, 57, 57, 57, 57, 57, 57]⟩ : ByteArray).data.toList [48, 49, 50, 51, 52, 53, 54, 55, 56, 57] = [] by decide] at hT
  go_enter Tryz.func183, Tryz.ntmps183
  go_wp2_with (first | (go_at_call 132; refine (hT _).mono ?_; rintro e w' ⟨rfl, hB⟩))
  go_ret
  exact ⟨rfl, hB⟩
set_option maxHeartbeats 1000000 in
theorem digits6 (w : World) : Calls Tryz.prog 183 #[.string ⟨#[57, 57, 57, 57, 57, 57]⟩, .int .i64 6] w fun e w' => e = .returned (.bool true) ∧ Below w.heap.size w w' := by
  have hT := fun w => trim_dig ⟨#[57, 57, 57, 57, 57, 57]⟩ w (by decide)
  rw [show Lib.trimS (⟨#[57, 57, 57, 57, 57, 57]⟩ : ByteArray).data.toList [48, 49, 50, 51, 52, 53, 54, 55, 56, 57] = [] by decide] at hT
  go_enter Tryz.func183, Tryz.ntmps183
  go_wp2_with (first | (go_at_call 132; refine (hT _).mono ?_; rintro e w' ⟨rfl, hB⟩))
  go_ret
  exact ⟨rfl, hB⟩
set_option maxHeartbeats 2000000 in
theorem numberM (w : World) : Calls Tryz.prog 148 #[.string ⟨#[57, 57, 57, 57, 57, 57, 57, 57, 57, 46, 57, 57, 57, 57, 57, 57]⟩] w fun e w' => e = .returned (.tuple #[.int .i64 63999999999, .bool true]) ∧ Below w.heap.size w w' := by
  have hP := fun w => Tryz.strings_CutPrefix ⟨#[57, 57, 57, 57, 57, 57, 57, 57, 57, 46, 57, 57, 57, 57, 57, 57]⟩ ⟨#[45]⟩ w
  rw [show Lib.trimPrefix (⟨#[57, 57, 57, 57, 57, 57, 57, 57, 57, 46, 57, 57, 57, 57, 57, 57]⟩ : ByteArray).data.toList (⟨#[45]⟩ : ByteArray).data.toList = [57, 57, 57, 57, 57, 57, 57, 57, 57, 46, 57, 57, 57, 57, 57, 57] by decide, show Lib.hasPrefix (⟨#[57, 57, 57, 57, 57, 57, 57, 57, 57, 46, 57, 57, 57, 57, 57, 57]⟩ : ByteArray).data.toList (⟨#[45]⟩ : ByteArray).data.toList = false by decide] at hP
  have hC := fun w => ShX.xCut_one Tryz.lays145 ⟨#[57, 57, 57, 57, 57, 57, 57, 57, 57, 46, 57, 57, 57, 57, 57, 57]⟩ 46 w (by decide)
  rw [show Lib.cut (⟨#[57, 57, 57, 57, 57, 57, 57, 57, 57, 46, 57, 57, 57, 57, 57, 57]⟩ : ByteArray).data.toList [46] = ([57, 57, 57, 57, 57, 57, 57, 57, 57], [57, 57, 57, 57, 57, 57], true) by decide] at hC
  have hN := fun w => Tryz.strconv_ParseInt_10_at64_ok ⟨#[57, 57, 57, 57, 57, 57, 57, 57, 57]⟩ (by decide) 999999999 (by decide) w
  have hM := fun w => Tryz.strconv_ParseInt_10_at64_ok ⟨#[57, 57, 57, 57, 57, 57]⟩ (by decide) 999999 (by decide) w
  have e6 : ((⟨#[57, 57, 57, 57, 57, 57]⟩ : ByteArray) ++ (⟨#[48, 48, 48, 48, 48, 48]⟩ : ByteArray)).extract 0 6 = ⟨#[57, 57, 57, 57, 57, 57]⟩ := by decide
  rw [← e6] at hM
  have hb : ∀ {W W' : World}, (W' = W ∨ ∃ t, W' = Lib.bytesWorld W 5 t) → Below W.heap.size W W' := by
    rintro W W' (rfl | ⟨t, rfl⟩)
    · exact Below.refl _ _
    · exact Lib.bytesWorld_below _ _ _
  go_enter Tryz.func148, Tryz.ntmps148
  go_wp2_with (first | (go_at_call 182; refine (hP _).mono ?_; rintro e w' ⟨rfl, rfl⟩) | (go_at_call 102; refine (hC _).mono ?_; rintro e w' ⟨rfl, nd, rfl⟩) | (go_at_call 183; first | (with_reducible refine (digits9 _).mono ?_; rintro e w1 ⟨rfl, hB1⟩) | (with_reducible refine (digits6 _).mono ?_; rintro e w2 ⟨rfl, hB2⟩)) | (go_at_call 184; first | (with_reducible refine (hN _).mono ?_; rintro e w3 ⟨rfl, hB3⟩) | (refine (hM _).mono ?_; rintro e w4 ⟨rfl, hB4⟩)))
  go_ret2
  have q0 : Below w'.heap.size w' (w'.drewN nd) := pw_below_drewN (Below.refl _ _) nd
  have q1 := below_then q0 q0.size hB1
  have q2 := below_then q1 q1.size hB2
  have q3 := below_then q2 q2.size (hb hB3)
  exact ⟨rfl, below_then q3 q3.size (hb hB4)⟩
set_option maxHeartbeats 1000000 in
theorem most_any (w : World) : Calls Tryz.prog 117 #[] w fun e w' => e = .returned (.int .i64 63999999999) ∧ Below w.heap.size w w' := by
  go_enter Tryz.func117, Tryz.ntmps117
  go_wp2_with (first | (go_at_call 148; refine (numberM _).mono ?_; rintro e w' ⟨rfl, hB⟩))
  go_ret
  exact ⟨rfl, hB⟩
end Go.Proofs.Val
set_option linter.unusedVariables false
set_option linter.unusedSimpArgs false
namespace Go.Proofs.Val
open Go.RowKit Go.Lib Go.Proofs Go.Proofs.YtolfpgccebdlpaaGreatDoorW.PrintWords
def rec0 (p : Nat) : SortRec := recOf p 0 0 0 0
theorem rec0_eq (p b1 b2 b3 b4 : Nat) (h1 : 1 ≤ p) (h2 : p ≤ 26) : (recOf p b1 b2 b3 b4).auto = (rec0 p).auto ∧ (recOf p b1 b2 b3 b4).length = (rec0 p).length ∧ (recOf p b1 b2 b3 b4).part = (rec0 p).part ∧ (recOf p b1 b2 b3 b4).below = (rec0 p).below ∧ (recOf p b1 b2 b3 b4).color = (rec0 p).color ∧ (recOf p b1 b2 b3 b4).number = (rec0 p).number ∧ (recOf p b1 b2 b3 b4).wn = (rec0 p).wn := by
  rcases cases26 h1 h2 with rfl | rfl | rfl | rfl | rfl | rfl | rfl | rfl | rfl | rfl | rfl | rfl | rfl | rfl | rfl | rfl | rfl | rfl | rfl | rfl | rfl | rfl | rfl | rfl | rfl | rfl <;> exact ⟨rfl, rfl, rfl, rfl, rfl, rfl, rfl⟩
def lowV (p : Nat) : Int := if (rec0 p).below = true then -63999999999 else 0
def mayV (p : Nat) (k n : Int) : Bool :=
  if k = 1 then (rec0 p).auto && decide (n = 0)
  else if k = 2 then (rec0 p).length && (decide (lowV p ≤ n) && decide (n ≤ 63999999999))
  else if k = 3 then (rec0 p).part && (decide (0 ≤ n) && decide (n ≤ 63999999999))
  else if k = 4 then (rec0 p).color && (decide (0 ≤ n) && decide (n ≤ 16777215))
  else if k = 5 then decide (0 ≤ n) && decide (n < ((rec0 p).wn : Int))
  else if k = 6 then (rec0 p).number && (decide (lowV p ≤ n) && decide (n ≤ 63999999999))
  else false
set_option maxHeartbeats 4000000 in
set_option maxRecDepth 100000 in
theorem mayC (p : Nat) (h1 : 1 ≤ p) (h2 : p ≤ 26) (k n : Int) (w : World) :
    Calls Tryz.prog 74 #[.int .i64 (p : Int), .agg #[.int .i64 k, .int .i64 n]] w fun e w' => e = .returned (.bool (mayV p k n)) ∧ Below w.heap.size w w' := by
  have hO := fun w => ofC p h1 h2 w
  have hE := fun b1 b2 b3 b4 => rec0_eq p b1 b2 b3 b4 h1 h2
  obtain ⟨r0, hr0⟩ : ∃ r0, rec0 p = r0 := ⟨_, rfl⟩
  go_enter Tryz.func74, Tryz.ntmps74
  go_upto_region 3 with (first | (go_at_call 116; refine (hO _).mono ?_; rintro e w1 ⟨b1, b2, b3, b4, rfl, hS, hB⟩; obtain ⟨ea, el, ep, eb, ec, en, ew⟩ := hE b1 b2 b3 b4; generalize recOf p b1 b2 b3 b4 = r at ea el ep eb ec en ew ⊢))
  obtain ⟨W2, hW2⟩ : ∃ W2, w1.alloc (.cells #[.string r.name, .bool r0.auto, .bool r0.length, .bool r0.part, .bool r0.below, .bool r0.color, .bool r0.number, .slice r.wa r0.wn r0.wn, .int .i64 r.k, .int .i64 r.n] 163) = W2 := ⟨_, rfl⟩
  rw [hW2]
  have hBw : Below w.heap.size w w1 := below_then (below_alloc (Below.refl _ _) _) (by rw [alloc_size]; omega) hB
  have HB2 : Below w.heap.size w W2 := by rw [← hW2]; exact below_alloc hBw _
  have hsz : w.heap.size < w1.heap.size := by have := hB.size; rw [alloc_size] at this; omega
  have hrow : W2.heap[w1.heap.size]? = some (.cells #[.string r.name, .bool r0.auto, .bool r0.length, .bool r0.part, .bool r0.below, .bool r0.color, .bool r0.number, .slice r.wa r0.wn r0.wn, .int .i64 r.k, .int .i64 r.n] 163 (0, 0)) := by rw [← hW2]; exact heap_alloc_new _ _
  have hvow : W2.heap[w.heap.size]? = some (.cells #[.int .i64 k, .int .i64 n] 109 (0, 0)) := by
    rw [← hW2]
    have a1 : w1.heap[w.heap.size]? = some (.cells #[.int .i64 k, .int .i64 n] 109 (0, 0)) := (hB.block w.heap.size (by rw [alloc_size]; omega)).trans (heap_alloc_new _ _)
    exact (heap_alloc_old _ _ hsz).trans a1
  obtain ⟨g, hg⟩ : ∃ g, w1.heap.size = g := ⟨_, rfl⟩
  obtain ⟨v, hv⟩ : ∃ v, w.heap.size = v := ⟨_, rfl⟩
  have HBA := Aside0.mk HB2
  rw [hg] at hrow ⊢
  rw [hv] at hvow ⊢
  have HR := Aside0.mk hrow
  have HV := Aside0.mk hvow
  clear hrow hvow hBw HB2 hsz hW2 hS hB hO hE
  have HM : Aside0 (mayV p k n = mayV p k n) := ⟨rfl⟩
  obtain ⟨nm, au, le, pa, be, co, nu, wa, wn, kk, nn⟩ := r0
  have HK : ∀ W, Below W2.heap.size W2 W → (∀ (j : Nat) (u : Value), (#[.string r.name, .bool au, .bool le, .bool pa, .bool be, .bool co, .bool nu, .slice r.wa wn wn, .int .i64 r.k, .int .i64 r.n] : Array Value)[j]? = some u → W.cell? ⟨g, j, none⟩ = some u) ∧ (∀ (j : Nat) (u : Value), (#[.int .i64 k, .int .i64 n] : Array Value)[j]? = some u → W.cell? ⟨v, j, none⟩ = some u) ∧ Aside0 (Below w.heap.size w W) := by
    intro W hW
    refine ⟨fun j u hj => ?_, fun j u hj => ?_, ⟨below_then HBA.out HBA.out.size hW⟩⟩
    · exact (blk_cell ((hW.block g (blk_lt HR.out)).trans HR.out) j).trans hj
    · exact (blk_cell ((hW.block v (blk_lt HV.out)).trans HV.out) j).trans hj
  have HKA := Aside0.mk HK
  clear HK HR HV
  obtain ⟨kt, kv, kb⟩ := HKA.out W2 (Below.refl _ _)
  have t1 := kt 1 _ rfl
  have t2 := kt 2 _ rfl
  have t3 := kt 3 _ rfl
  have t4 := kt 4 _ rfl
  have t5 := kt 5 _ rfl
  have t6 := kt 6 _ rfl
  have t7 := kt 7 _ rfl
  have v0 := kv 0 _ rfl
  have v1 := kv 1 _ rfl
  clear kt kv
  cases be with
  | false =>
    go_upto_region 5 with fail
    by_cases k1 : k = 1
    · subst k1
      cases au with
      | false =>
        go_wp2
        go_ret
        exact ⟨(by first | (simp [mayV, lowV, hr0]; done) | (simp [mayV, lowV, hr0]; omega)), by first | exact kb.out | (rw [← hv]; exact kb.out) | exact pw_below_drewN (kb.out) _ | (rw [← hv]; exact pw_below_drewN (kb.out) _)⟩
      | true =>
        by_cases hn : n = 0
        · subst hn
          go_wp2
          go_ret
          exact ⟨(by first | (simp [mayV, lowV, hr0]; done) | (simp [mayV, lowV, hr0]; omega)), by first | exact kb.out | (rw [← hv]; exact kb.out) | exact pw_below_drewN (kb.out) _ | (rw [← hv]; exact pw_below_drewN (kb.out) _)⟩
        · have e0 : (n == 0) = false := by simp [hn]
          go_wp2
          go_ret
          exact ⟨(by first | (simp [mayV, lowV, hr0, hn]; done) | (simp [mayV, lowV, hr0, hn]; omega)), by first | exact kb.out | (rw [← hv]; exact kb.out) | exact pw_below_drewN (kb.out) _ | (rw [← hv]; exact pw_below_drewN (kb.out) _)⟩
    have f1 : (k == 1) = false := by simp [k1]
    by_cases k2 : k = 2
    · subst k2
      cases le with
      | false =>
        go_wp2; go_quiet (fail); go_wp2
        go_ret
        exact ⟨(by first | (simp [mayV, lowV, hr0]; done) | (simp [mayV, lowV, hr0]; omega)), by first | exact kb.out | (rw [← hv]; exact kb.out) | exact pw_below_drewN (kb.out) _ | (rw [← hv]; exact pw_below_drewN (kb.out) _)⟩
      | true =>
        by_cases ha : (0 : Int) ≤ n
        · have ga : decide ((0 : Int) ≤ n) = true := decide_eq_true ha
          go_wp2; go_region_with (first | (go_at_call 117; refine (most_any _).mono ?_; rintro e W4 ⟨rfl, hB4⟩; have v4 := (HKA.out W4 (below_then (below_drew1 (Below.refl _ _)) (Nat.le_refl _) hB4)).2.1 1 _ rfl))
          all_goals (go_wp2; go_ret; exact ⟨(show _ = Ending.returned (Value.bool (decide (n ≤ 63999999999))) from rfl).trans (by first | (simp [mayV, lowV, hr0, ha]; done) | (simp [mayV, lowV, hr0, ha]; omega)), by first | exact below_then (below_drew1 kb.out) (below_drew1 kb.out).size hB4 | (rw [← hv]; exact below_then (below_drew1 kb.out) (below_drew1 kb.out).size hB4) | exact pw_below_drewN (below_then (below_drew1 kb.out) (below_drew1 kb.out).size hB4) _ | (rw [← hv]; exact pw_below_drewN (below_then (below_drew1 kb.out) (below_drew1 kb.out).size hB4) _)⟩)
        · have ga : decide ((0 : Int) ≤ n) = false := decide_eq_false ha
          go_wp2; go_quiet (fail); go_wp2
          go_ret
          exact ⟨(by first | (simp [mayV, lowV, hr0, ha]; done) | (simp [mayV, lowV, hr0, ha]; omega)), by first | exact kb.out | (rw [← hv]; exact kb.out) | exact pw_below_drewN (kb.out) _ | (rw [← hv]; exact pw_below_drewN (kb.out) _)⟩
    have f2 : (k == 2) = false := by simp [k2]
    by_cases k3 : k = 3
    · subst k3
      cases pa with
      | false =>
        go_wp2; go_quiet (fail); go_wp2
        go_ret
        exact ⟨(by first | (simp [mayV, lowV, hr0]; done) | (simp [mayV, lowV, hr0]; omega)), by first | exact kb.out | (rw [← hv]; exact kb.out) | exact pw_below_drewN (kb.out) _ | (rw [← hv]; exact pw_below_drewN (kb.out) _)⟩
      | true =>
        by_cases ha : (0 : Int) ≤ n
        · have ga : decide ((0 : Int) ≤ n) = true := decide_eq_true ha
          go_wp2; go_region_with (first | (go_at_call 117; refine (most_any _).mono ?_; rintro e W4 ⟨rfl, hB4⟩; have v4 := (HKA.out W4 (below_then (below_drew1 (Below.refl _ _)) (Nat.le_refl _) hB4)).2.1 1 _ rfl))
          all_goals (go_wp2; go_ret; exact ⟨(show _ = Ending.returned (Value.bool (decide (n ≤ 63999999999))) from rfl).trans (by first | (simp [mayV, lowV, hr0, ha]; done) | (simp [mayV, lowV, hr0, ha]; omega)), by first | exact below_then (below_drew1 kb.out) (below_drew1 kb.out).size hB4 | (rw [← hv]; exact below_then (below_drew1 kb.out) (below_drew1 kb.out).size hB4) | exact pw_below_drewN (below_then (below_drew1 kb.out) (below_drew1 kb.out).size hB4) _ | (rw [← hv]; exact pw_below_drewN (below_then (below_drew1 kb.out) (below_drew1 kb.out).size hB4) _)⟩)
        · have ga : decide ((0 : Int) ≤ n) = false := decide_eq_false ha
          go_wp2; go_quiet (fail); go_wp2
          go_ret
          exact ⟨(by first | (simp [mayV, lowV, hr0, ha]; done) | (simp [mayV, lowV, hr0, ha]; omega)), by first | exact kb.out | (rw [← hv]; exact kb.out) | exact pw_below_drewN (kb.out) _ | (rw [← hv]; exact pw_below_drewN (kb.out) _)⟩
    have f3 : (k == 3) = false := by simp [k3]
    by_cases k4 : k = 4
    · subst k4
      cases co with
      | false =>
        go_wp2
        go_ret
        exact ⟨(by first | (simp [mayV, lowV, hr0]; done) | (simp [mayV, lowV, hr0]; omega)), by first | exact kb.out | (rw [← hv]; exact kb.out) | exact pw_below_drewN (kb.out) _ | (rw [← hv]; exact pw_below_drewN (kb.out) _)⟩
      | true =>
        by_cases ha : (0 : Int) ≤ n
        · have ga : decide ((0 : Int) ≤ n) = true := decide_eq_true ha
          go_wp2
          go_ret
          exact ⟨(by first | (simp [mayV, lowV, hr0, ha]; done) | (simp [mayV, lowV, hr0, ha]; omega)), by first | exact kb.out | (rw [← hv]; exact kb.out) | exact pw_below_drewN (kb.out) _ | (rw [← hv]; exact pw_below_drewN (kb.out) _)⟩
        · have ga : decide ((0 : Int) ≤ n) = false := decide_eq_false ha
          go_wp2
          go_ret
          exact ⟨(by first | (simp [mayV, lowV, hr0, ha]; done) | (simp [mayV, lowV, hr0, ha]; omega)), by first | exact kb.out | (rw [← hv]; exact kb.out) | exact pw_below_drewN (kb.out) _ | (rw [← hv]; exact pw_below_drewN (kb.out) _)⟩
    have f4 : (k == 4) = false := by simp [k4]
    by_cases k5 : k = 5
    · subst k5
      by_cases ha : (0 : Int) ≤ n
      · have ga : decide ((0 : Int) ≤ n) = true := decide_eq_true ha
        by_cases hc : n < (wn : Int)
        · have gc : decide (n < (wn : Int)) = true := decide_eq_true hc
          go_wp2
          go_ret
          exact ⟨(by first | (simp [mayV, lowV, hr0, ha, hc]; done) | (simp [mayV, lowV, hr0, ha, hc]; omega)), by first | exact kb.out | (rw [← hv]; exact kb.out) | exact pw_below_drewN (kb.out) _ | (rw [← hv]; exact pw_below_drewN (kb.out) _)⟩
        · have gc : decide (n < (wn : Int)) = false := decide_eq_false hc
          go_wp2
          go_ret
          exact ⟨(by first | (simp [mayV, lowV, hr0, ha, hc]; done) | (simp [mayV, lowV, hr0, ha, hc]; omega)), by first | exact kb.out | (rw [← hv]; exact kb.out) | exact pw_below_drewN (kb.out) _ | (rw [← hv]; exact pw_below_drewN (kb.out) _)⟩
      · have ga : decide ((0 : Int) ≤ n) = false := decide_eq_false ha
        go_wp2
        go_ret
        exact ⟨(by first | (simp [mayV, lowV, hr0, ha]; done) | (simp [mayV, lowV, hr0, ha]; omega)), by first | exact kb.out | (rw [← hv]; exact kb.out) | exact pw_below_drewN (kb.out) _ | (rw [← hv]; exact pw_below_drewN (kb.out) _)⟩
    have f5 : (k == 5) = false := by simp [k5]
    by_cases k6 : k = 6
    · subst k6
      cases nu with
      | false =>
        go_wp2; go_quiet (fail); go_wp2
        go_ret
        exact ⟨(by first | (simp [mayV, lowV, hr0]; done) | (simp [mayV, lowV, hr0]; omega)), by first | exact kb.out | (rw [← hv]; exact kb.out) | exact pw_below_drewN (kb.out) _ | (rw [← hv]; exact pw_below_drewN (kb.out) _)⟩
      | true =>
        by_cases ha : (0 : Int) ≤ n
        · have ga : decide ((0 : Int) ≤ n) = true := decide_eq_true ha
          go_wp2; go_region_with (first | (go_at_call 117; refine (most_any _).mono ?_; rintro e W4 ⟨rfl, hB4⟩; have v4 := (HKA.out W4 (below_then (below_drew1 (Below.refl _ _)) (Nat.le_refl _) hB4)).2.1 1 _ rfl))
          all_goals (go_wp2; go_ret; exact ⟨(show _ = Ending.returned (Value.bool (decide (n ≤ 63999999999))) from rfl).trans (by first | (simp [mayV, lowV, hr0, ha]; done) | (simp [mayV, lowV, hr0, ha]; omega)), by first | exact below_then (below_drew1 kb.out) (below_drew1 kb.out).size hB4 | (rw [← hv]; exact below_then (below_drew1 kb.out) (below_drew1 kb.out).size hB4) | exact pw_below_drewN (below_then (below_drew1 kb.out) (below_drew1 kb.out).size hB4) _ | (rw [← hv]; exact pw_below_drewN (below_then (below_drew1 kb.out) (below_drew1 kb.out).size hB4) _)⟩)
        · have ga : decide ((0 : Int) ≤ n) = false := decide_eq_false ha
          go_wp2; go_quiet (fail); go_wp2
          go_ret
          exact ⟨(by first | (simp [mayV, lowV, hr0, ha]; done) | (simp [mayV, lowV, hr0, ha]; omega)), by first | exact kb.out | (rw [← hv]; exact kb.out) | exact pw_below_drewN (kb.out) _ | (rw [← hv]; exact pw_below_drewN (kb.out) _)⟩
    have f6 : (k == 6) = false := by simp [k6]
    go_wp2
    go_ret
    exact ⟨(by first | (simp [mayV, lowV, hr0, k1, k2, k3, k4, k5, k6]; done) | (simp [mayV, lowV, hr0, k1, k2, k3, k4, k5, k6]; omega)), by first | exact kb.out | (rw [← hv]; exact kb.out) | exact pw_below_drewN (kb.out) _ | (rw [← hv]; exact pw_below_drewN (kb.out) _)⟩
  | true =>
    go_upto_region 5 with (first | (go_at_call 117; refine (most_any _).mono ?_; rintro e W3 ⟨rfl, hB3⟩))
    clear t1 t2 t3 t4 t5 t6 t7 v0 v1 kb
    obtain ⟨kt, kv, kb⟩ := HKA.out W3 hB3
    have t1 := kt 1 _ rfl
    have t2 := kt 2 _ rfl
    have t3 := kt 3 _ rfl
    have t4 := kt 4 _ rfl
    have t5 := kt 5 _ rfl
    have t6 := kt 6 _ rfl
    have t7 := kt 7 _ rfl
    have v0 := kv 0 _ rfl
    have v1 := kv 1 _ rfl
    clear kt kv
    by_cases k1 : k = 1
    · subst k1
      cases au with
      | false =>
        go_wp2
        go_ret
        exact ⟨(by first | (simp [mayV, lowV, hr0]; done) | (simp [mayV, lowV, hr0]; omega)), by first | exact kb.out | (rw [← hv]; exact kb.out) | exact pw_below_drewN (kb.out) _ | (rw [← hv]; exact pw_below_drewN (kb.out) _)⟩
      | true =>
        by_cases hn : n = 0
        · subst hn
          go_wp2
          go_ret
          exact ⟨(by first | (simp [mayV, lowV, hr0]; done) | (simp [mayV, lowV, hr0]; omega)), by first | exact kb.out | (rw [← hv]; exact kb.out) | exact pw_below_drewN (kb.out) _ | (rw [← hv]; exact pw_below_drewN (kb.out) _)⟩
        · have e0 : (n == 0) = false := by simp [hn]
          go_wp2
          go_ret
          exact ⟨(by first | (simp [mayV, lowV, hr0, hn]; done) | (simp [mayV, lowV, hr0, hn]; omega)), by first | exact kb.out | (rw [← hv]; exact kb.out) | exact pw_below_drewN (kb.out) _ | (rw [← hv]; exact pw_below_drewN (kb.out) _)⟩
    have f1 : (k == 1) = false := by simp [k1]
    by_cases k2 : k = 2
    · subst k2
      cases le with
      | false =>
        go_wp2; go_quiet (fail); go_wp2
        go_ret
        exact ⟨(by first | (simp [mayV, lowV, hr0]; done) | (simp [mayV, lowV, hr0]; omega)), by first | exact kb.out | (rw [← hv]; exact kb.out) | exact pw_below_drewN (kb.out) _ | (rw [← hv]; exact pw_below_drewN (kb.out) _)⟩
      | true =>
        by_cases ha : (-63999999999 : Int) ≤ n
        · have ga : decide ((-63999999999 : Int) ≤ n) = true := decide_eq_true ha
          go_wp2; go_region_with (first | (go_at_call 117; refine (most_any _).mono ?_; rintro e W4 ⟨rfl, hB4⟩; have v4 := (HKA.out W4 (below_then (below_drew1 hB3) (below_drew1 hB3).size hB4)).2.1 1 _ rfl))
          all_goals (go_wp2; go_ret; exact ⟨(show _ = Ending.returned (Value.bool (decide (n ≤ 63999999999))) from rfl).trans (by first | (simp [mayV, lowV, hr0, ha]; done) | (simp [mayV, lowV, hr0, ha]; omega)), by first | exact below_then (below_drew1 kb.out) (below_drew1 kb.out).size hB4 | (rw [← hv]; exact below_then (below_drew1 kb.out) (below_drew1 kb.out).size hB4) | exact pw_below_drewN (below_then (below_drew1 kb.out) (below_drew1 kb.out).size hB4) _ | (rw [← hv]; exact pw_below_drewN (below_then (below_drew1 kb.out) (below_drew1 kb.out).size hB4) _)⟩)
        · have ga : decide ((-63999999999 : Int) ≤ n) = false := decide_eq_false ha
          go_wp2; go_quiet (fail); go_wp2
          go_ret
          exact ⟨(by first | (simp [mayV, lowV, hr0, ha]; done) | (simp [mayV, lowV, hr0, ha]; omega)), by first | exact kb.out | (rw [← hv]; exact kb.out) | exact pw_below_drewN (kb.out) _ | (rw [← hv]; exact pw_below_drewN (kb.out) _)⟩
    have f2 : (k == 2) = false := by simp [k2]
    by_cases k3 : k = 3
    · subst k3
      cases pa with
      | false =>
        go_wp2; go_quiet (fail); go_wp2
        go_ret
        exact ⟨(by first | (simp [mayV, lowV, hr0]; done) | (simp [mayV, lowV, hr0]; omega)), by first | exact kb.out | (rw [← hv]; exact kb.out) | exact pw_below_drewN (kb.out) _ | (rw [← hv]; exact pw_below_drewN (kb.out) _)⟩
      | true =>
        by_cases ha : (0 : Int) ≤ n
        · have ga : decide ((0 : Int) ≤ n) = true := decide_eq_true ha
          go_wp2; go_region_with (first | (go_at_call 117; refine (most_any _).mono ?_; rintro e W4 ⟨rfl, hB4⟩; have v4 := (HKA.out W4 (below_then (below_drew1 hB3) (below_drew1 hB3).size hB4)).2.1 1 _ rfl))
          all_goals (go_wp2; go_ret; exact ⟨(show _ = Ending.returned (Value.bool (decide (n ≤ 63999999999))) from rfl).trans (by first | (simp [mayV, lowV, hr0, ha]; done) | (simp [mayV, lowV, hr0, ha]; omega)), by first | exact below_then (below_drew1 kb.out) (below_drew1 kb.out).size hB4 | (rw [← hv]; exact below_then (below_drew1 kb.out) (below_drew1 kb.out).size hB4) | exact pw_below_drewN (below_then (below_drew1 kb.out) (below_drew1 kb.out).size hB4) _ | (rw [← hv]; exact pw_below_drewN (below_then (below_drew1 kb.out) (below_drew1 kb.out).size hB4) _)⟩)
        · have ga : decide ((0 : Int) ≤ n) = false := decide_eq_false ha
          go_wp2; go_quiet (fail); go_wp2
          go_ret
          exact ⟨(by first | (simp [mayV, lowV, hr0, ha]; done) | (simp [mayV, lowV, hr0, ha]; omega)), by first | exact kb.out | (rw [← hv]; exact kb.out) | exact pw_below_drewN (kb.out) _ | (rw [← hv]; exact pw_below_drewN (kb.out) _)⟩
    have f3 : (k == 3) = false := by simp [k3]
    by_cases k4 : k = 4
    · subst k4
      cases co with
      | false =>
        go_wp2
        go_ret
        exact ⟨(by first | (simp [mayV, lowV, hr0]; done) | (simp [mayV, lowV, hr0]; omega)), by first | exact kb.out | (rw [← hv]; exact kb.out) | exact pw_below_drewN (kb.out) _ | (rw [← hv]; exact pw_below_drewN (kb.out) _)⟩
      | true =>
        by_cases ha : (0 : Int) ≤ n
        · have ga : decide ((0 : Int) ≤ n) = true := decide_eq_true ha
          go_wp2
          go_ret
          exact ⟨(by first | (simp [mayV, lowV, hr0, ha]; done) | (simp [mayV, lowV, hr0, ha]; omega)), by first | exact kb.out | (rw [← hv]; exact kb.out) | exact pw_below_drewN (kb.out) _ | (rw [← hv]; exact pw_below_drewN (kb.out) _)⟩
        · have ga : decide ((0 : Int) ≤ n) = false := decide_eq_false ha
          go_wp2
          go_ret
          exact ⟨(by first | (simp [mayV, lowV, hr0, ha]; done) | (simp [mayV, lowV, hr0, ha]; omega)), by first | exact kb.out | (rw [← hv]; exact kb.out) | exact pw_below_drewN (kb.out) _ | (rw [← hv]; exact pw_below_drewN (kb.out) _)⟩
    have f4 : (k == 4) = false := by simp [k4]
    by_cases k5 : k = 5
    · subst k5
      by_cases ha : (0 : Int) ≤ n
      · have ga : decide ((0 : Int) ≤ n) = true := decide_eq_true ha
        by_cases hc : n < (wn : Int)
        · have gc : decide (n < (wn : Int)) = true := decide_eq_true hc
          go_wp2
          go_ret
          exact ⟨(by first | (simp [mayV, lowV, hr0, ha, hc]; done) | (simp [mayV, lowV, hr0, ha, hc]; omega)), by first | exact kb.out | (rw [← hv]; exact kb.out) | exact pw_below_drewN (kb.out) _ | (rw [← hv]; exact pw_below_drewN (kb.out) _)⟩
        · have gc : decide (n < (wn : Int)) = false := decide_eq_false hc
          go_wp2
          go_ret
          exact ⟨(by first | (simp [mayV, lowV, hr0, ha, hc]; done) | (simp [mayV, lowV, hr0, ha, hc]; omega)), by first | exact kb.out | (rw [← hv]; exact kb.out) | exact pw_below_drewN (kb.out) _ | (rw [← hv]; exact pw_below_drewN (kb.out) _)⟩
      · have ga : decide ((0 : Int) ≤ n) = false := decide_eq_false ha
        go_wp2
        go_ret
        exact ⟨(by first | (simp [mayV, lowV, hr0, ha]; done) | (simp [mayV, lowV, hr0, ha]; omega)), by first | exact kb.out | (rw [← hv]; exact kb.out) | exact pw_below_drewN (kb.out) _ | (rw [← hv]; exact pw_below_drewN (kb.out) _)⟩
    have f5 : (k == 5) = false := by simp [k5]
    by_cases k6 : k = 6
    · subst k6
      cases nu with
      | false =>
        go_wp2; go_quiet (fail); go_wp2
        go_ret
        exact ⟨(by first | (simp [mayV, lowV, hr0]; done) | (simp [mayV, lowV, hr0]; omega)), by first | exact kb.out | (rw [← hv]; exact kb.out) | exact pw_below_drewN (kb.out) _ | (rw [← hv]; exact pw_below_drewN (kb.out) _)⟩
      | true =>
        by_cases ha : (-63999999999 : Int) ≤ n
        · have ga : decide ((-63999999999 : Int) ≤ n) = true := decide_eq_true ha
          go_wp2; go_region_with (first | (go_at_call 117; refine (most_any _).mono ?_; rintro e W4 ⟨rfl, hB4⟩; have v4 := (HKA.out W4 (below_then (below_drew1 hB3) (below_drew1 hB3).size hB4)).2.1 1 _ rfl))
          all_goals (go_wp2; go_ret; exact ⟨(show _ = Ending.returned (Value.bool (decide (n ≤ 63999999999))) from rfl).trans (by first | (simp [mayV, lowV, hr0, ha]; done) | (simp [mayV, lowV, hr0, ha]; omega)), by first | exact below_then (below_drew1 kb.out) (below_drew1 kb.out).size hB4 | (rw [← hv]; exact below_then (below_drew1 kb.out) (below_drew1 kb.out).size hB4) | exact pw_below_drewN (below_then (below_drew1 kb.out) (below_drew1 kb.out).size hB4) _ | (rw [← hv]; exact pw_below_drewN (below_then (below_drew1 kb.out) (below_drew1 kb.out).size hB4) _)⟩)
        · have ga : decide ((-63999999999 : Int) ≤ n) = false := decide_eq_false ha
          go_wp2; go_quiet (fail); go_wp2
          go_ret
          exact ⟨(by first | (simp [mayV, lowV, hr0, ha]; done) | (simp [mayV, lowV, hr0, ha]; omega)), by first | exact kb.out | (rw [← hv]; exact kb.out) | exact pw_below_drewN (kb.out) _ | (rw [← hv]; exact pw_below_drewN (kb.out) _)⟩
    have f6 : (k == 6) = false := by simp [k6]
    go_wp2
    go_ret
    exact ⟨(by first | (simp [mayV, lowV, hr0, k1, k2, k3, k4, k5, k6]; done) | (simp [mayV, lowV, hr0, k1, k2, k3, k4, k5, k6]; omega)), by first | exact kb.out | (rw [← hv]; exact kb.out) | exact pw_below_drewN (kb.out) _ | (rw [← hv]; exact pw_below_drewN (kb.out) _)⟩
end Go.Proofs.Val
set_option linter.unusedVariables false
set_option linter.unusedSimpArgs false
namespace Go.Proofs.Val
open Go.RowKit Go.Proofs Go.Proofs.YtolfpgccebdlpaaGreatDoorW.PrintWords
/-- the number of a property, 0 if it is none -/
def cl (p : Int) : Nat := if 1 ≤ p ∧ p ≤ 26 then p.toNat else 0
theorem cl_in {p : Int} (h1 : 1 ≤ p) (h2 : p ≤ 26) : cl p = p.toNat := if_pos ⟨h1, h2⟩
theorem cl_out {p : Int} (h : ¬ (1 ≤ p ∧ p ≤ 26)) : cl p = 0 := if_neg h
theorem cl_le (p : Int) : cl p ≤ 26 := by unfold cl; split <;> omega
def wordsP (p : Nat) : List ByteArray :=
  if p = 1 then [⟨#[98, 108, 111, 99, 107]⟩, ⟨#[105, 110, 108, 105, 110, 101]⟩, ⟨#[102, 108, 101, 120]⟩, ⟨#[110, 111, 110, 101]⟩]
  else if p = 19 then [⟨#[108, 101, 102, 116]⟩, ⟨#[99, 101, 110, 116, 101, 114]⟩, ⟨#[114, 105, 103, 104, 116]⟩]
  else if p = 22 then [⟨#[114, 111, 119]⟩, ⟨#[99, 111, 108, 117, 109, 110]⟩]
  else if p = 23 then [⟨#[115, 116, 97, 114, 116]⟩, ⟨#[99, 101, 110, 116, 101, 114]⟩, ⟨#[101, 110, 100]⟩, ⟨#[98, 101, 116, 119, 101, 101, 110]⟩]
  else []
/-- a property's sort, its words in whatever row -/
def recA (p : Nat) (wa : Option Addr) : SortRec := { rec0 p with wa := wa }
structure WordsIn (w : World) (wa : Option Addr) (l : List ByteArray) : Prop where
  at_ : l = [] ∨ ∃ b, wa = some ⟨b, 0, none⟩ ∧ ∀ j, j < l.length → w.cell? ⟨b, 0 + j, none⟩ = some (.string (l.getD j ByteArray.empty))
theorem WordsIn.below {w w' : World} {wa : Option Addr} {l : List ByteArray} (h : WordsIn w wa l) (hb : Below w.heap.size w w') : WordsIn w' wa l := by
  rcases h.at_ with h | ⟨b, e, h⟩
  · exact ⟨.inl h⟩
  · exact ⟨.inr ⟨b, e, fun j hj => (hb.cell (World.block_lt_of_cell? _ _ (h j hj))).trans (h j hj)⟩⟩
theorem wordsP_len (p : Nat) (h : p ≤ 26) : (rec0 p).wn = (wordsP p).length := by
  by_cases h0 : p = 0
  · subst h0; rfl
  · rcases cases26 (by omega) h with rfl | rfl | rfl | rfl | rfl | rfl | rfl | rfl | rfl | rfl | rfl | rfl | rfl | rfl | rfl | rfl | rfl | rfl | rfl | rfl | rfl | rfl | rfl | rfl | rfl | rfl <;> rfl
theorem words_row {W : World} {b : Nat} {l : List (List UInt8)} (h : WordRow' W b 9 l) : ∀ j, j < (l.map fun s => (⟨s.toArray⟩ : ByteArray)).length → W.cell? ⟨b, 0 + j, none⟩ = some (.string ((l.map fun s => (⟨s.toArray⟩ : ByteArray)).getD j ByteArray.empty)) := fun j hj => by
  rw [List.length_map] at hj
  rw [Nat.zero_add, cell_of_row _ _ _ _ _ _ h]
  simp [List.getD, List.getElem?_eq_getElem hj]
theorem rec_words {w W : World} {b1 b2 b3 b4 : Nat} (p : Nat) (h1 : 1 ≤ p) (h2 : p ≤ 26) (h : SortWords w W b1 b2 b3 b4) :
    recOf p b1 b2 b3 b4 = recA p (recOf p b1 b2 b3 b4).wa ∧ WordsIn W (recOf p b1 b2 b3 b4).wa (wordsP p) := by
  have r1 := words_row h.r1
  have r2 := words_row h.r2
  have r3 := words_row h.r3
  have r4 := words_row h.r4
  rcases cases26 h1 h2 with rfl | rfl | rfl | rfl | rfl | rfl | rfl | rfl | rfl | rfl | rfl | rfl | rfl | rfl | rfl | rfl | rfl | rfl | rfl | rfl | rfl | rfl | rfl | rfl | rfl | rfl
  all_goals refine ⟨rfl, ⟨?_⟩⟩
  all_goals first | exact .inl rfl | exact .inr ⟨_, rfl, r1⟩ | exact .inr ⟨_, rfl, r2⟩ | exact .inr ⟨_, rfl, r3⟩ | exact .inr ⟨_, rfl, r4⟩
set_option maxHeartbeats 1000000 in
theorem ofP (p : Int) (w : World) :
    Calls Tryz.prog 116 #[.int .i64 p] w fun e w' => ∃ wa, e = .returned (.tuple #[recV (recA (cl p) wa), .bool (decide (1 ≤ p ∧ p ≤ 26))]) ∧ WordsIn w' wa (wordsP (cl p)) ∧ Below w.heap.size w w' := by
  by_cases h : 1 ≤ p ∧ p ≤ 26
  · obtain ⟨q, rfl⟩ : ∃ q : Nat, p = (q : Int) := ⟨p.toNat, by omega⟩
    rw [cl_in h.1 h.2, decide_eq_true h, Int.toNat_natCast]
    refine (ofC q (by omega) (by omega) w).mono ?_
    rintro e w' ⟨b1, b2, b3, b4, rfl, hw, hb⟩
    obtain ⟨r1, r2⟩ := rec_words q (by omega) (by omega) hw
    exact ⟨_, by rw [← r1], r2, hb⟩
  · rw [cl_out h, decide_eq_false h]
    by_cases h1 : p < 1
    · have d1 : decide (p < 1) = true := decide_eq_true h1
      clear h
      go_enter Tryz.func116, Tryz.ntmps116
      go_wp2
      refine bodyPost_ret (v := .tuple #[recV (recA 0 none), .bool false]) (by simp [results, Tryz.results116, go_sem, recA, rec0, recOf, recs]) rfl ⟨none, rfl, ⟨.inl rfl⟩, (Below.refl _ _).alloc (Nat.le_refl _) _⟩
    · have d1 : decide (p < 1) = false := decide_eq_false h1
      have d2 : decide (27 ≤ p) = true := decide_eq_true (by omega)
      clear h
      go_enter Tryz.func116, Tryz.ntmps116
      go_wp2
      refine bodyPost_ret (v := .tuple #[recV (recA 0 none), .bool false]) (by simp [results, Tryz.results116, go_sem, recA, rec0, recOf, recs]) rfl ⟨none, rfl, ⟨.inl rfl⟩, (Below.refl _ _).alloc (Nat.le_refl _) _⟩
def nameP (p : Int) : ByteArray := (rec0 (cl p)).name
set_option maxHeartbeats 1000000 in
theorem nameC (p : Int) (w : World) : Calls Tryz.prog 76 #[.int .i64 p] w fun e w' => e = .returned (.string (nameP p)) ∧ Below w.heap.size w w' := by
  go_enter Tryz.func76, Tryz.ntmps76
  go_wp2_with (go_at_call 116; refine (ofP p _).mono ?_; rintro e w' ⟨wa, rfl, hw, hb⟩; clear hw)
  go_ret
  exact ⟨rfl, hb.alloc hb.size _⟩
/-- the names of the 26 properties -/
def namesL : List ByteArray := (List.range 26).map fun k => (rec0 (k + 1)).name
def propI (s : ByteArray) : Int := Lib.idxOfS namesL s
def propV (s : ByteArray) : Int := max (propI s + 1) 0
theorem ba_eq (s t : ByteArray) : (s.toList == t.toList) = decide (s = t) := by
  by_cases h : s = t
  · rw [decide_eq_true h, h]; simp
  · rw [decide_eq_false h]
    refine beq_eq_false_iff_ne.2 fun e => h ?_
    rw [Lib.toList_data, Lib.toList_data] at e
    cases s; cases t
    exact congrArg ByteArray.mk (Array.toList_inj.1 e)
set_option maxHeartbeats 1000000 in
theorem prop1C (r : SortRec) (s : ByteArray) (nb : Nat) (w : World) (hn : w.cell? ⟨nb, 0, none⟩ = some (.string s)) :
    Calls Tryz.prog 173 #[recV r, .pointer (some ⟨nb, 0, none⟩)] w fun e w' => e = .returned (.bool (decide (r.name = s))) ∧ Below w.heap.size w w' := by
  have hlt := World.block_lt_of_cell? _ _ hn
  go_enter Tryz.func173, Tryz.ntmps173
  go_wp2
  go_ret
  exact ⟨by rw [← ba_eq]; rfl, below_alloc (Below.refl _ _) _⟩
theorem at_SA (q : Nat) (hq : q < 26) (b1 b2 b3 b4 : Nat) (g : Nat) (w : World) (h : w.heap[g]? = some (.cells (SA 4 b1 b2 b3 b4) 191 (0, 0))) :
    w.cell? ⟨g, 10 + q * 10, none⟩ = some (.string (recOf (q + 1) b1 b2 b3 b4).name) ∧ w.cell? ⟨g, 10 + q * 10 + 1, none⟩ = some (.bool (recOf (q + 1) b1 b2 b3 b4).auto) ∧ w.cell? ⟨g, 10 + q * 10 + 2, none⟩ = some (.bool (recOf (q + 1) b1 b2 b3 b4).length) ∧ w.cell? ⟨g, 10 + q * 10 + 3, none⟩ = some (.bool (recOf (q + 1) b1 b2 b3 b4).part) ∧ w.cell? ⟨g, 10 + q * 10 + 4, none⟩ = some (.bool (recOf (q + 1) b1 b2 b3 b4).below) ∧ w.cell? ⟨g, 10 + q * 10 + 5, none⟩ = some (.bool (recOf (q + 1) b1 b2 b3 b4).color) ∧ w.cell? ⟨g, 10 + q * 10 + 6, none⟩ = some (.bool (recOf (q + 1) b1 b2 b3 b4).number) ∧ w.cell? ⟨g, 10 + q * 10 + 7, none⟩ = some (.slice (recOf (q + 1) b1 b2 b3 b4).wa (recOf (q + 1) b1 b2 b3 b4).wn (recOf (q + 1) b1 b2 b3 b4).wn) ∧ w.cell? ⟨g, 10 + q * 10 + 8, none⟩ = some (.int .i64 (recOf (q + 1) b1 b2 b3 b4).k) ∧ w.cell? ⟨g, 10 + q * 10 + 9, none⟩ = some (.int .i64 (recOf (q + 1) b1 b2 b3 b4).n) := by
  have hc : ∀ o, w.cell? ⟨g, o, none⟩ = (SA 4 b1 b2 b3 b4)[o]? := fun o => cell_of_row _ _ _ _ _ _ h
  simp only [hc]
  rcases cases26 (by omega : 1 ≤ q + 1) (by omega) with h | h | h | h | h | h | h | h | h | h | h | h | h | h | h | h | h | h | h | h | h | h | h | h | h | h
  all_goals
    obtain rfl := Nat.succ.inj h
    exact ⟨by kernel_rfl, by kernel_rfl, by kernel_rfl, by kernel_rfl, by kernel_rfl, by kernel_rfl, by kernel_rfl, by kernel_rfl, by kernel_rfl, by kernel_rfl⟩
theorem name_recOf (p b1 b2 b3 b4 : Nat) (h1 : 1 ≤ p) (h2 : p ≤ 26) : (recOf p b1 b2 b3 b4).name = (rec0 p).name := by
  rcases cases26 h1 h2 with rfl | rfl | rfl | rfl | rfl | rfl | rfl | rfl | rfl | rfl | rfl | rfl | rfl | rfl | rfl | rfl | rfl | rfl | rfl | rfl | rfl | rfl | rfl | rfl | rfl | rfl <;> rfl
theorem names_len : namesL.length = 26 := rfl
theorem names_at (q : Nat) (h : q < 26) : namesL.getD q ByteArray.empty = (rec0 (q + 1)).name := by
  unfold namesL
  rw [List.getD, List.getElem?_map, List.getElem?_range h]
  rfl
set_option maxHeartbeats 2000000 in
set_option maxRecDepth 100000 in
theorem index38 (s : ByteArray) (g nb b1 b2 b3 b4 : Nat) (w : World) (hg : w.heap[g]? = some (.cells (SA 4 b1 b2 b3 b4) 191 (0, 0))) (hn : w.cell? ⟨nb, 0, none⟩ = some (.string s)) :
    Calls Tryz.prog 172 #[.slice (some ⟨g, 10, none⟩) 26 26, .func (.func 173) #[] #[.pointer (some ⟨nb, 0, none⟩)]] w fun e w' => e = .returned (.int .i64 (propI s)) ∧ Below w.heap.size w w' := by
  have lg := lt_get hg
  have ln := World.block_lt_of_cell? _ _ hn
  go_enter Tryz.func172, Tryz.ntmps172
  go_wp2
  have HG := Lib.hid (And.intro hg hn)
  clear hg hn
  go_loopw [5, 8, 9, 10, 11, 12, 13, 14, 15, 16, 18] (fun _ i _ _ _ _ _ _ _ _ _ wr => ∃ k : Nat, k ≤ 26 ∧ i = .int .i64 k ∧ Hid (∀ j, j < k → namesL.getD j ByteArray.empty ≠ s) ∧ Hid (Below w.heap.size w wr)) (fun _ i _ _ _ _ _ _ _ _ _ _ => 26 - (RowKit.intOf i).toNat)
  case atStart => exact ⟨0, by omega, rfl, Lib.hid (fun j hj => by omega), Lib.hid (Below.refl _ _)⟩
  case round =>
    obtain ⟨k, hk, rfl, N1, B1⟩ := hrel
    by_cases hlt : k < 26
    · have g1 : decide ((k : Int) < 26) = true := decide_eq_true (by omega)
      have hg2 : wr.heap[g]? = some (.cells (SA 4 b1 b2 b3 b4) 191 (0, 0)) := below_of_row B1.out HG.out.1 lg
      have hn2 : wr.cell? ⟨nb, 0, none⟩ = some (.string s) := (B1.out.cell (p := ⟨nb, 0, none⟩) ln).trans HG.out.2
      obtain ⟨a0, a1, a2, a3, a4, a5, a6, a7, a8, a9⟩ := at_SA k hlt b1 b2 b3 b4 g wr hg2
      have hx := prop1C (recOf (k + 1) b1 b2 b3 b4) s nb wr hn2
      have hnm := name_recOf (k + 1) b1 b2 b3 b4 (by omega) (by omega)
      have hat := names_at k hlt
      rw [← hnm] at hat
      clear hg2 hn2 hnm
      generalize recOf (k + 1) b1 b2 b3 b4 = r at a0 a1 a2 a3 a4 a5 a6 a7 a8 a9 hx hat
      by_cases he : r.name = s
      · rw [decide_eq_true he] at hx
        have HE := Lib.hid (show propI s = (k : Int) from by
          have := Lib.idxFromS_hit s namesL k 0 (by rw [names_len]; exact hlt) (hat.trans he) N1.out
          rw [Nat.zero_add] at this
          exact this)
        clear he hat
        go_wp2_with (first | (go_at_call 173; refine (hx).mono ?_; rintro e w' ⟨rfl, hB⟩))
        go_ret
        exact ⟨(show _ = Ending.returned (Value.int .i64 (k : Int)) from rfl).trans (by rw [HE.out]), below_then B1.out B1.out.size hB⟩
      · rw [decide_eq_false he] at hx
        have HE := Lib.hid (show namesL.getD k ByteArray.empty ≠ s from by rw [hat]; exact he)
        clear he hat
        go_wp2_with (first | (go_at_call 173; refine (hx).mono ?_; rintro e w' ⟨rfl, hB⟩))
        exact ⟨⟨k + 1, by omega, by go_num, Lib.hid (fun j hj => by
          by_cases e : j = k
          · rw [e]; exact HE.out
          · exact N1.out j (by omega)), Lib.hid (below_then B1.out B1.out.size hB)⟩, by simp [RowKit.intOf]; omega⟩
    · obtain rfl : k = 26 := by omega
      have HE := Lib.hid (show propI s = -1 from Lib.idxFromS_miss s namesL 0 (by rw [names_len]; exact N1.out))
      go_wp2
      go_ret
      exact ⟨(show _ = Ending.returned (Value.int .i64 (-1)) from rfl).trans (by rw [HE.out]), B1.out⟩
theorem idxFrom_bd (x : ByteArray) : ∀ (zs : List ByteArray) (i : Nat), Lib.idxFromS zs x i = -1 ∨ ((i : Int) ≤ Lib.idxFromS zs x i ∧ Lib.idxFromS zs x i < (i : Int) + zs.length)
  | [], i => by left; simp [Lib.idxFromS]
  | z :: zs, i => by
    by_cases h : z = x
    · right; simp [Lib.idxFromS, h]; omega
    · have := idxFrom_bd x zs (i + 1)
      simp only [Lib.idxFromS, if_neg h, List.length_cons]
      omega
theorem propI_bd (s : ByteArray) : -1 ≤ propI s ∧ propI s < 26 := by
  have := idxFrom_bd s namesL 0
  rw [names_len] at this
  unfold propI Lib.idxOfS
  omega
set_option maxHeartbeats 2000000 in
set_option maxRecDepth 100000 in
theorem propC (s : ByteArray) (w : World) : Calls Tryz.prog 143 #[.string s] w fun e w' => e = .returned (.int .i64 (propV s)) ∧ Below w.heap.size w w' := by
  go_enter Tryz.func143, Tryz.ntmps143
  go_upto_region 2 with (first
    | (go_at_call 147; refine (sortsC _).mono ?_; rintro e w1 ⟨b1, b2, b3, b4, rfl, hS, hb1⟩; clear hS)
    | (refine wpList_store_row rfl 191 _ _ rfl _ (SA 4 b1 b2 b3 b4) rfl rfl 191 z95 (heap_alloc_at _ _ ?_) (info95.trans (congrArg some (size_SA 4 b1 b2 b3 b4 (by omega)).symm)) (size_z95.trans (size_SA 4 b1 b2 b3 b4 (by omega)).symm) (all_SA4 _ _ _ _) ?_; · simp))
  obtain ⟨V, hV⟩ : ∃ V, V = (w1.alloc (Obj.cells Tryz.zeroCells191 191)).setRow w1.heap.size (SA 4 b1 b2 b3 b4) := ⟨_, rfl⟩
  have hsz : w.heap.size < w1.heap.size := by have := hb1.size; rw [alloc_size] at this; omega
  have hg : V.heap[w1.heap.size]? = some (.cells (SA 4 b1 b2 b3 b4) 191 (0, 0)) := by rw [hV]; exact setRow_heap _ _ _ _ _ _ (heap_alloc_new _ _)
  have hn : V.cell? ⟨w.heap.size, 0, none⟩ = some (.string s) := by
    have h0 : (w.alloc (Obj.cells #[.string s] 9)).heap[w.heap.size]? = some (.cells #[.string s] 9 (0, 0)) := heap_alloc_new _ _
    have h1 := below_of_row hb1 h0 (by rw [alloc_size]; omega)
    have h2 : V.heap[w.heap.size]? = some (.cells #[.string s] 9 (0, 0)) := by
      rw [hV, setRow_other _ _ _ _ (by omega), alloc_get, if_neg (by omega)]
      exact h1
    exact (cell_of_row V _ 0 _ _ _ h2).trans rfl
  have p1 : Below w.heap.size w w1 := ((Below.refl _ _).alloc (Nat.le_refl _) _).trans (hb1.mono (by rw [alloc_size]; omega))
  have pV : Below w.heap.size w V := by rw [hV]; exact below_setRow (p1.alloc p1.size _) _ _ p1.size
  rw [← hV]
  clear hV hb1
  have hx := index38 s w1.heap.size w.heap.size b1 b2 b3 b4 V hg hn
  have lg := lt_get hg
  clear hg hn
  obtain ⟨i, hi⟩ : ∃ i, propI s = i := ⟨_, rfl⟩
  have hb : -1 ≤ i ∧ i < 26 := by rw [← hi]; exact propI_bd s
  have HV := Lib.hid (show propV s = max (i + 1) 0 by unfold propV; rw [hi])
  rw [hi] at hx
  clear hi
  go_wp2_with (first | (go_at_call 172; refine (hx).mono ?_; rintro e w' ⟨rfl, hB⟩))
  go_ret
  exact ⟨(show _ = Ending.returned (Value.int .i64 (max (i + 1) 0)) from rfl).trans (by rw [HV.out]), pV.trans (hB.mono pV.size)⟩
end Go.Proofs.Val
