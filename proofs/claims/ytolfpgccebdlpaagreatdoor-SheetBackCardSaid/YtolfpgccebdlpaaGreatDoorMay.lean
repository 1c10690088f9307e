/- selector's may of one part: contracts proved by walking their text; no condition beside those that each theorem states. -/
import Derived.Test.YtolfpgccebdlpaaGreatDoorTkB
import Derived.BigQuiet
import Derived.Test.YtolfpgccebdlpaaGreatDoorWTab
import Derived.Deep.RegionHeld3
import Derived.Test.YtolfpgccebdlpaaGreatDoorScO
import Derived.RangeFuncNested
import Derived.RangeFuncBound
import Derived.RangeFuncCalls
import Derived.RangeFuncLeaves
import Derived.Shelf.Abstract
import Derived.Shelf.RegionOpen
import Derived.WalkKit
import Derived.OwnWalkIn
import Derived.TacticsInMore
import Derived.LoopNIn
import Derived.LoopIn
import Derived.Maps.AppendAt
import Derived.Test.YtolfpgccebdlpaaGreatDoorWLast
import Derived.Lib.ParseIntB
import Derived.Lib.ParseIntBCases
import Derived.Lib.SlTrimSet
import Derived.Lib.Strings
import Derived.Lib.IndexMore
import Derived.Lib.ItoaNum
import Derived.Lib.Hide
import Derived.StillTailTactics
import Derived.Deep.MidRow
import Derived.Test.YtolfpgccebdlpaaGreatDoorWWords
import Derived.Test.YtolfpgccebdlpaaGreatDoorProg
import Derived.WalkLawsBesides
import Derived.WalkSpells
import Derived.Below
import Derived.Deep.Draws
import Derived.Deep.AppendLies
import Derived.OwnWalk
import Derived.Laws.BytesArg
import Derived.Laws.MakeOwn
import Derived.Laws.OwnMore
import Derived.Deep.OwnRows
import Derived.Laws.Slices
import Derived.KernelRfl
import Derived.RowKit3
import Derived.Deep.LoopGhost
import Derived.Deep.QuietTactic
import Derived.WideLaws
import Derived.Deep.DeepCutAuto
import Derived.Deep.CutBlock
import Derived.Laws.Rows
import Derived.Laws.Tables
import Derived.RowKit
import Derived.Outline
import Derived.Shelf.Strings.SlTrimAscii
set_option linter.unusedVariables false
set_option linter.unusedSimpArgs false
namespace Go.Proofs.Tok
open Go.RowKit Go.Lib Go.Proofs.YtolfpgccebdlpaaGreatDoorW.PrintWords Go.Proofs.YtolfpgccebdlpaaGreatDoorW.PrintLast Go.Proofs.YtolfpgccebdlpaaGreatDoorW.PrintMore
def truthV (b : Bool) : Int := if b = true then 1 else 0
set_option maxHeartbeats 2000000 in
set_option maxRecDepth 400000 in
theorem truth_any (b : Bool) (w : World) : Calls Tryz.prog 59 #[.bool b] w fun e w' => e = .returned (.int .i64 (truthV b)) ∧ w' = w := by
 cases b with
 | true =>
  go_enter Tryz.func59, Tryz.ntmps59
  go_wp2
  go_ret
  exact ⟨rfl, rfl⟩
 | false =>
  go_enter Tryz.func59, Tryz.ntmps59
  go_wp2
  go_ret
  exact ⟨rfl, rfl⟩
theorem alloc_size (w : World) (o : Obj) : (w.alloc o).heap.size = w.heap.size + 1 := World.size_alloc _ _
theorem alloc_cell (w : World) (cs : Array Value) (e j : Nat) (v : Value) (h : cs[j]? = some v) : (w.alloc (.cells cs e)).cell? ⟨w.heap.size, j, none⟩ = some v := (World.cell?_alloc_new w cs e j).trans h
structure Since (b : Nat) (w0 W : World) : Prop where
 bel : Below w0.heap.size w0 W
 lt : b < w0.heap.size
theorem Since.refl {b : Nat} {w0 : World} (h : b < w0.heap.size) : Since b w0 w0 := ⟨Below.refl _ _, h⟩
theorem held_next {b : Nat} {u v x : Value} {w0 W W2 : World} (h : W.cell? ⟨b, 0, none⟩ = some u ∧ W.cell? ⟨b, 3, none⟩ = some v ∧ W.cell? ⟨b, 4, none⟩ = some x ∧ Since b w0 W) (hb : Below W.heap.size W W2) : W2.cell? ⟨b, 0, none⟩ = some u ∧ W2.cell? ⟨b, 3, none⟩ = some v ∧ W2.cell? ⟨b, 4, none⟩ = some x ∧ Since b w0 W2 :=
 ⟨(hb.cell (World.block_lt_of_cell? _ _ h.1)).trans h.1, (hb.cell (World.block_lt_of_cell? _ _ h.2.1)).trans h.2.1, (hb.cell (World.block_lt_of_cell? _ _ h.2.2.1)).trans h.2.2.1, ⟨below_then h.2.2.2.1 h.2.2.2.1.size hb, h.2.2.2.2⟩⟩
def mayV (t : ByteArray) (l1 l2 : List ByteArray) (b3 b4 : Bool) : Bool := (decide (t.data.toList = []) || nameV t.data.toList) && (!(l1 ++ l2).any noName && decide (((l1 ++ l2).length : Int) + truthV b3 + truthV b4 ≤ 8))
theorem may_sum (l1 l2 : List ByteArray) (b3 b4 : Bool) (h : (l1.length + l2.length) * 16 ≤ 140737488355328) : wrap64 (wrap64 ((l1.length : Int) + (l2.length : Int) + truthV b3) + truthV b4) = ((l1 ++ l2).length : Int) + truthV b3 + truthV b4 := by
 rw [List.length_append]
 cases b3 <;> cases b4 <;> simp only [truthV, if_true, if_false, Bool.false_eq_true] <;> unfold wrap64 <;> omega
theorem may_tab : rtab .any (opsOf Tryz.f52 2) = rtab .any (opsOf Tryz.f52 2) := rfl
set_option maxHeartbeats 4000000 in
set_option maxRecDepth 400000 in
theorem may_any (t : ByteArray) (A1 : Option Addr) (c1 : Nat) (l1 : List ByteArray) (A2 : Option Addr) (c2 : Nat) (l2 : List ByteArray) (b3 b4 : Bool) (w : World) (C1 : Kd.C Kd.string w A1 l1.length l1) (C2 : Kd.C Kd.string w A2 l2.length l2)
  (hl : (l1.length + l2.length) * 16 ≤ 140737488355328) (ht : t.size < 4294967281) (hs : ∀ s ∈ l1 ++ l2, s.size < 4294967281) :
  Calls Tryz.prog 52 #[.agg #[.string t, .slice A1 l1.length c1, .slice A2 l2.length c2, .bool b3, .bool b4]] w fun e w' => e = .returned (.bool (mayV t l1 l2 b3 b4)) ∧ Below w.heap.size w w' := by
 have D1 := Aside0.mk C1
 have D2 := Aside0.mk C2
 have HL := Aside0.mk hl
 have HS := Aside0.mk hs
 clear C1 C2 hl hs
 have hu44 := Tryz.underlying80
 obtain ⟨w0, hw0⟩ : ∃ w0, w.alloc (.cells #[.string t, .slice A1 l1.length c1, .slice A2 l2.length c2, .bool b3, .bool b4] 80) = w0 := ⟨_, rfl⟩
 obtain ⟨w1, hw1⟩ : ∃ w1, w0.alloc (.cells #[.slice A1 l1.length c1, .slice A2 l2.length c2] 76) = w1 := ⟨_, rfl⟩
 have b0 : Below w.heap.size w w0 := by rw [← hw0]; exact below_alloc (Below.refl _ _) _
 have sz0 : w0.heap.size = w.heap.size + 1 := by rw [← hw0]; exact alloc_size _ _
 have b1 : Below w0.heap.size w0 w1 := by rw [← hw1]; exact below_alloc (Below.refl _ _) _
 have sz1 : w1.heap.size = w.heap.size + 2 := by rw [← hw1, alloc_size, sz0]
 have k0 : ∀ j v, (#[.string t, .slice A1 l1.length c1, .slice A2 l2.length c2, .bool b3, .bool b4] : Array Value)[j]? = some v → w1.cell? ⟨w.heap.size, j, none⟩ = some v := by
  intro j v hj
  refine (b1.cell (p := ⟨w.heap.size, j, none⟩) (by show w.heap.size < _; omega)).trans ?_
  rw [← hw0]
  exact alloc_cell _ _ _ _ _ hj
 have k1 : ∀ j v, (#[.slice A1 l1.length c1, .slice A2 l2.length c2] : Array Value)[j]? = some v → w1.cell? ⟨w.heap.size + 1, j, none⟩ = some v := by
  intro j v hj
  rw [← hw1, ← sz0]
  exact alloc_cell _ _ _ _ _ hj
 have B1 := Aside0.mk (below_then b0 b0.size b1)
 have hcc := concat_any l1 l2 A1 A2 c1 c2 (w.heap.size + 1) w1 (by omega) (k1 0 _ rfl) (k1 1 _ rfl) (Kd.C_below D1.out B1.out) (Kd.C_below D2.out B1.out) HL.out
 have K0 := Aside0.mk k0
 have SZ := Aside0.mk sz1
 have E1 := Aside0.mk hw1
 have E0 := Aside0.mk hw0
 clear k0 k1 b0 b1 sz0 sz1 hw0 hw1
 go_enter Tryz.func52, Tryz.ntmps52
 go_wp2_with (first | (go_at_call 93; rw [E0.out, E1.out]; refine hcc.mono ?_; rintro e w' ⟨v, rfl, hR, hB⟩; obtain ⟨A3, c3, e3⟩ := Kd.R_slice hR; subst e3; have C3 := Aside0.mk (Kd.R_reads' hR).2.2; have K2 := Aside0.mk (fun (j : Nat) (v : Value) (hj : (#[.string t, .slice A1 l1.length c1, .slice A2 l2.length c2, .bool b3, .bool b4] : Array Value)[j]? = some v) => (hB.cell (p := ⟨w.heap.size, j, none⟩) (by show w.heap.size < _; rw [SZ.out]; omega)).trans (K0.out j v hj)); have HB := Aside0.mk (below_then B1.out B1.out.size hB); have hsz := hB.size; rw [SZ.out] at hsz; clear hR hB))
 have h0 : w'.cell? ⟨w.heap.size, 0, none⟩ = some (.string t) := K2.out 0 _ rfl
 have h3 : w'.cell? ⟨w.heap.size, 3, none⟩ = some (.bool b3) := K2.out 3 _ rfl
 have h4 : w'.cell? ⟨w.heap.size, 4, none⟩ = some (.bool b4) := K2.out 4 _ rfl
 have hsz1 : w.heap.size < w'.heap.size := by omega
 have hcf : ∀ W, (W.cell? ⟨w.heap.size, 0, none⟩ = some (.string t) ∧ W.cell? ⟨w.heap.size, 3, none⟩ = some (.bool b3) ∧ W.cell? ⟨w.heap.size, 4, none⟩ = some (.bool b4) ∧ Since w.heap.size w' W) → Calls Tryz.prog 95 #[.slice A3 (l1.length + l2.length) c3, .func (.func 96) #[] #[]] W fun e w' => e = .returned (.bool ((l1 ++ l2).any noName)) ∧ Below W.heap.size W w' := by
  intro W hW
  have := contains_strs (l1 ++ l2) A3 c3 W (Kd.C_below C3.out hW.2.2.2.1) (by have := HL.out; rw [List.length_append]; omega) HS.out
  rwa [List.length_append] at this
 have hnm := fun W => Name_any t W ht
 have HM : Aside0 (mayV t l1 l2 b3 b4 = ((decide (t.data.toList = []) || nameV t.data.toList) && (!(l1 ++ l2).any noName && decide (((l1 ++ l2).length : Int) + truthV b3 + truthV b4 ≤ 8)))) := ⟨rfl⟩
 clear h0 h3 h4
 have h0 : w'.cell? ⟨w.heap.size, 0, none⟩ = some (.string t) := K2.out 0 _ rfl
 have h3 : w'.cell? ⟨w.heap.size, 3, none⟩ = some (.bool b3) := K2.out 3 _ rfl
 have h4 : w'.cell? ⟨w.heap.size, 4, none⟩ = some (.bool b4) := K2.out 4 _ rfl
 obtain ⟨bn, hbn⟩ : ∃ bn, nameV t.data.toList = bn := ⟨_, rfl⟩
 obtain ⟨ba, hba⟩ : ∃ ba, (l1 ++ l2).any noName = ba := ⟨_, rfl⟩
 rw [hbn] at hnm
 rw [hba] at hcf
 have HN := Aside0.mk hbn
 have HA := Aside0.mk hba
 clear hbn hba
 by_cases hE : t.data.toList = []
 ·have e1 : (t.toList == ([] : List UInt8)) = true := by rw [Lib.toList_data, hE]; rfl
  have e3 : (t.toList = []) = True := eq_true (by rw [Lib.toList_data, hE])
  have HE := Aside0.mk hE
  clear hE
  cases ba with
  | true =>
   refine start_ (n := 27) (S := (fun W => W.cell? ⟨w.heap.size, 0, none⟩ = some (.string t) ∧ W.cell? ⟨w.heap.size, 3, none⟩ = some (.bool b3) ∧ W.cell? ⟨w.heap.size, 4, none⟩ = some (.bool b4) ∧ Since w.heap.size w' W)) (ds := []) #[false, false, false, false, false, false, false, false, false, false, false, false, false, false, false, false, false, false, false, false, false, false, false, false, false, false, false] (by kernel_rfl) rfl rfl ⟨h0, h3, h4, ⟨below_drew1 (Below.refl _ _), hsz1⟩⟩ (fun hHeld => ?_)
   refine with_tab may_tab (fun HT_ => ?_)
   refine pure_ (i := 0) (N := (some 10)) (v := ?vv1) (a' := ?aa1) #[true, false, false, false, false, false, false, false, false, false, false, false, false, false, false, false, false, false, false, false, false, false, false, false, false, false, false] rfl rfl (any_of HT_.out (by kernel_rfl)) (fun _ _ _ h => h) (Or.inl ⟨by rfl, ?hy1⟩) ?ha1 ?hh1
   case hy1 => (intro w'; go_simp; try with_reducible rfl)
   case ha1 => (simp only [Act.put, List.setIfInBounds_toArray, List.set_cons_zero, List.set_cons_succ, i64_w, i32_w]; rfl)
   refine take_ (i := 1) (N := (some 11)) (v := ?vv2) (a' := ?aa2) #[true, true, false, false, false, false, false, false, false, false, false, false, false, false, false, false, false, false, false, false, false, false, false, false, false, false, false] rfl rfl (take_of HT_.out (by kernel_rfl)) (fun _ _ _ h => h) (Or.inl ⟨by rfl, ?hy2⟩) hHeld ?ha2 ?hh2
   case hy2 => (intro w' hS; obtain ⟨hS0, hS3, hS4, hSb⟩ := hS; go_simp; try with_reducible rfl)
   case ha2 => (simp only [Act.put, List.setIfInBounds_toArray, List.set_cons_zero, List.set_cons_succ, i64_w, i32_w]; rfl)
   refine pure_ (i := 2) (N := (some 12)) (v := ?vv3) (a' := ?aa3) #[true, true, true, false, false, false, false, false, false, false, false, false, false, false, false, false, false, false, false, false, false, false, false, false, false, false, false] rfl rfl (any_of HT_.out (by kernel_rfl)) (fun _ _ _ h => h) (Or.inl ⟨by rfl, ?hy3⟩) ?ha3 ?hh3
   case hy3 => (intro w'; go_simp; try with_reducible rfl)
   case ha3 => (simp only [Act.put, List.setIfInBounds_toArray, List.set_cons_zero, List.set_cons_succ, i64_w, i32_w]; rfl)
   refine pure_ (i := 3) (N := (some 13)) (v := ?vv4) (a' := ?aa4) #[true, true, true, true, false, false, false, false, false, false, false, false, false, false, false, false, false, false, false, false, false, false, false, false, false, false, false] rfl rfl (any_of HT_.out (by kernel_rfl)) (fun _ _ _ h => h) (Or.inl ⟨by rfl, ?hy4⟩) ?ha4 ?hh4
   case hy4 => (intro w'; go_simp; try with_reducible rfl)
   case ha4 => (simp only [Act.put, List.setIfInBounds_toArray, List.set_cons_zero, List.set_cons_succ, i64_w, i32_w]; rfl)
   refine pure_ (i := 4) (N := (some 14)) (v := undef) (a' := ?aa5) #[true, true, true, true, true, false, false, false, false, false, false, false, false, false, false, false, false, false, false, false, false, false, false, false, false, false, false] rfl rfl (any_of HT_.out (by kernel_rfl)) (fun _ _ _ h => h) (Or.inr ⟨by rfl, rfl⟩) ?ha5 ?hh5
   case ha5 => (simp only [Act.put, List.setIfInBounds_toArray, List.set_cons_zero, List.set_cons_succ, i64_w, i32_w]; rfl)
   refine pure_ (i := 5) (N := (some 15)) (v := undef) (a' := ?aa6) #[true, true, true, true, true, true, false, false, false, false, false, false, false, false, false, false, false, false, false, false, false, false, false, false, false, false, false] rfl rfl (any_of HT_.out (by kernel_rfl)) (fun _ _ _ h => h) (Or.inr ⟨by rfl, rfl⟩) ?ha6 ?hh6
   case ha6 => (simp only [Act.put, List.setIfInBounds_toArray, List.set_cons_zero, List.set_cons_succ, i64_w, i32_w]; rfl)
   refine pure_ (i := 6) (N := (some 16)) (v := undef) (a' := ?aa7) #[true, true, true, true, true, true, true, false, false, false, false, false, false, false, false, false, false, false, false, false, false, false, false, false, false, false, false] rfl rfl (any_of HT_.out (by kernel_rfl)) (fun _ _ _ h => h) (Or.inr ⟨by rfl, rfl⟩) ?ha7 ?hh7
   case ha7 => (simp only [Act.put, List.setIfInBounds_toArray, List.set_cons_zero, List.set_cons_succ, i64_w, i32_w]; rfl)
   refine pure_ (i := 7) (N := (some 17)) (v := ?vv8) (a' := ?aa8) #[true, true, true, true, true, true, true, true, false, false, false, false, false, false, false, false, false, false, false, false, false, false, false, false, false, false, false] rfl rfl (any_of HT_.out (by kernel_rfl)) (fun _ _ _ h => h) (Or.inl ⟨by rfl, ?hy8⟩) ?ha8 ?hh8
   case hy8 => (intro w'; go_simp; try with_reducible rfl)
   case ha8 => (simp only [Act.put, List.setIfInBounds_toArray, List.set_cons_zero, List.set_cons_succ, i64_w, i32_w]; rfl)
   refine pure_ (i := 8) (N := (some 18)) (v := ?vv9) (a' := ?aa9) #[true, true, true, true, true, true, true, true, true, false, false, false, false, false, false, false, false, false, false, false, false, false, false, false, false, false, false] rfl rfl (any_of HT_.out (by kernel_rfl)) (fun _ _ _ h => h) (Or.inl ⟨by rfl, ?hy9⟩) ?ha9 ?hh9
   case hy9 => (intro w'; go_simp; try with_reducible rfl)
   case ha9 => (simp only [Act.put, List.setIfInBounds_toArray, List.set_cons_zero, List.set_cons_succ, i64_w, i32_w]; rfl)
   refine pure_ (i := 9) (N := (some 19)) (v := ?vv10) (a' := ?aa10) #[true, true, true, true, true, true, true, true, true, true, false, false, false, false, false, false, false, false, false, false, false, false, false, false, false, false, false] rfl rfl (any_of HT_.out (by kernel_rfl)) (fun _ _ _ h => h) (Or.inl ⟨by rfl, ?hy10⟩) ?ha10 ?hh10
   case hy10 => (intro w'; go_simp; try with_reducible rfl)
   case ha10 => (simp only [Act.put, List.setIfInBounds_toArray, List.set_cons_zero, List.set_cons_succ, i64_w, i32_w]; rfl)
   refine one_ (i := 10) (N := (some 20)) #[true, true, true, true, true, true, true, true, true, true, true, false, false, false, false, false, false, false, false, false, false, false, false, false, false, false, false] rfl rfl (one_of HT_.out (by kernel_rfl)) (by decide) (fun K hK => ?_)
   refine goes_ Tryz.func95 (by kernel_rfl) rfl #[.slice A3 (l1.length + l2.length) c3, .func (.func 96) #[] #[]] (by rfl) rfl rfl (by (try simp only [List.map_toArray, List.map_cons, List.map_nil]); first | done | rfl) ?_
   refine (hcf _ hHeld).mono ?_
   rintro e w3 ⟨rfl, hB3⟩
   refine ⟨_, rfl, ?_⟩
   refine hK.out _ _ (held_next hHeld hB3) (fun hHeld => ?_)
   clear hK K
   refine norm_ (a' := ?aa11) ?ha11 ?hh11
   case ha11 => (show Act.put _ (some 20) _ = _; simp only [Act.put, List.setIfInBounds_toArray, List.set_cons_zero, List.set_cons_succ, i64_w, i32_w]; rfl)
   refine pure_ (i := 11) (N := (some 21)) (v := ?vv12) (a' := ?aa12) #[true, true, true, true, true, true, true, true, true, true, true, true, false, false, false, false, false, false, false, false, false, false, false, false, false, false, false] rfl rfl (any_of HT_.out (by kernel_rfl)) (fun _ _ _ h => h) (Or.inl ⟨by rfl, ?hy12⟩) ?ha12 ?hh12
   case hy12 => (intro w'; go_simp; try with_reducible rfl)
   case ha12 => (simp only [Act.put, List.setIfInBounds_toArray, List.set_cons_zero, List.set_cons_succ, i64_w, i32_w]; rfl)
   refine pure_ (i := 12) (N := (some 22)) (v := ?vv13) (a' := ?aa13) #[true, true, true, true, true, true, true, true, true, true, true, true, true, false, false, false, false, false, false, false, false, false, false, false, false, false, false] rfl rfl (any_of HT_.out (by kernel_rfl)) (fun _ _ _ h => h) (Or.inl ⟨by rfl, ?hy13⟩) ?ha13 ?hh13
   case hy13 => (intro w'; go_simp; try with_reducible rfl)
   case ha13 => (simp only [Act.put, List.setIfInBounds_toArray, List.set_cons_zero, List.set_cons_succ, i64_w, i32_w]; rfl)
   refine pure_ (i := 13) (N := (some 23)) (v := ?vv14) (a' := ?aa14) #[true, true, true, true, true, true, true, true, true, true, true, true, true, true, false, false, false, false, false, false, false, false, false, false, false, false, false] rfl rfl (any_of HT_.out (by kernel_rfl)) (fun _ _ _ h => h) (Or.inl ⟨by rfl, ?hy14⟩) ?ha14 ?hh14
   case hy14 => (intro w'; go_simp; try with_reducible rfl)
   case ha14 => (simp only [Act.put, List.setIfInBounds_toArray, List.set_cons_zero, List.set_cons_succ, i64_w, i32_w]; rfl)
   refine pure_ (i := 14) (N := (some 24)) (v := undef) (a' := ?aa15) #[true, true, true, true, true, true, true, true, true, true, true, true, true, true, true, false, false, false, false, false, false, false, false, false, false, false, false] rfl rfl (any_of HT_.out (by kernel_rfl)) (fun _ _ _ h => h) (Or.inr ⟨by rfl, rfl⟩) ?ha15 ?hh15
   case ha15 => (simp only [Act.put, List.setIfInBounds_toArray, List.set_cons_zero, List.set_cons_succ, i64_w, i32_w]; rfl)
   refine pure_ (i := 15) (N := (some 25)) (v := undef) (a' := ?aa16) #[true, true, true, true, true, true, true, true, true, true, true, true, true, true, true, true, false, false, false, false, false, false, false, false, false, false, false] rfl rfl (any_of HT_.out (by kernel_rfl)) (fun _ _ _ h => h) (Or.inr ⟨by rfl, rfl⟩) ?ha16 ?hh16
   case ha16 => (simp only [Act.put, List.setIfInBounds_toArray, List.set_cons_zero, List.set_cons_succ, i64_w, i32_w]; rfl)
   refine pure_ (i := 16) (N := (some 26)) (v := undef) (a' := ?aa17) #[true, true, true, true, true, true, true, true, true, true, true, true, true, true, true, true, true, false, false, false, false, false, false, false, false, false, false] rfl rfl (any_of HT_.out (by kernel_rfl)) (fun _ _ _ h => h) (Or.inr ⟨by rfl, rfl⟩) ?ha17 ?hh17
   case ha17 => (simp only [Act.put, List.setIfInBounds_toArray, List.set_cons_zero, List.set_cons_succ, i64_w, i32_w]; rfl)
   refine pure_ (i := 17) (N := (some 27)) (v := undef) (a' := ?aa18) #[true, true, true, true, true, true, true, true, true, true, true, true, true, true, true, true, true, true, false, false, false, false, false, false, false, false, false] rfl rfl (any_of HT_.out (by kernel_rfl)) (fun _ _ _ h => h) (Or.inr ⟨by rfl, rfl⟩) ?ha18 ?hh18
   case ha18 => (simp only [Act.put, List.setIfInBounds_toArray, List.set_cons_zero, List.set_cons_succ, i64_w, i32_w]; rfl)
   refine pure_ (i := 18) (N := (some 28)) (v := undef) (a' := ?aa19) #[true, true, true, true, true, true, true, true, true, true, true, true, true, true, true, true, true, true, true, false, false, false, false, false, false, false, false] rfl rfl (any_of HT_.out (by kernel_rfl)) (fun _ _ _ h => h) (Or.inr ⟨by rfl, rfl⟩) ?ha19 ?hh19
   case ha19 => (simp only [Act.put, List.setIfInBounds_toArray, List.set_cons_zero, List.set_cons_succ, i64_w, i32_w]; rfl)
   refine pure_ (i := 19) (N := (some 29)) (v := undef) (a' := ?aa20) #[true, true, true, true, true, true, true, true, true, true, true, true, true, true, true, true, true, true, true, true, false, false, false, false, false, false, false] rfl rfl (any_of HT_.out (by kernel_rfl)) (fun _ _ _ h => h) (Or.inr ⟨by rfl, rfl⟩) ?ha20 ?hh20
   case ha20 => (simp only [Act.put, List.setIfInBounds_toArray, List.set_cons_zero, List.set_cons_succ, i64_w, i32_w]; rfl)
   refine pure_ (i := 20) (N := (some 30)) (v := undef) (a' := ?aa21) #[true, true, true, true, true, true, true, true, true, true, true, true, true, true, true, true, true, true, true, true, true, false, false, false, false, false, false] rfl rfl (any_of HT_.out (by kernel_rfl)) (fun _ _ _ h => h) (Or.inr ⟨by rfl, rfl⟩) ?ha21 ?hh21
   case ha21 => (simp only [Act.put, List.setIfInBounds_toArray, List.set_cons_zero, List.set_cons_succ, i64_w, i32_w]; rfl)
   refine pure_ (i := 21) (N := (some 31)) (v := undef) (a' := ?aa22) #[true, true, true, true, true, true, true, true, true, true, true, true, true, true, true, true, true, true, true, true, true, true, false, false, false, false, false] rfl rfl (any_of HT_.out (by kernel_rfl)) (fun _ _ _ h => h) (Or.inr ⟨by rfl, rfl⟩) ?ha22 ?hh22
   case ha22 => (simp only [Act.put, List.setIfInBounds_toArray, List.set_cons_zero, List.set_cons_succ, i64_w, i32_w]; rfl)
   refine pure_ (i := 22) (N := (some 32)) (v := undef) (a' := ?aa23) #[true, true, true, true, true, true, true, true, true, true, true, true, true, true, true, true, true, true, true, true, true, true, true, false, false, false, false] rfl rfl (any_of HT_.out (by kernel_rfl)) (fun _ _ _ h => h) (Or.inr ⟨by rfl, rfl⟩) ?ha23 ?hh23
   case ha23 => (simp only [Act.put, List.setIfInBounds_toArray, List.set_cons_zero, List.set_cons_succ, i64_w, i32_w]; rfl)
   refine pure_ (i := 23) (N := (some 33)) (v := undef) (a' := ?aa24) #[true, true, true, true, true, true, true, true, true, true, true, true, true, true, true, true, true, true, true, true, true, true, true, true, false, false, false] rfl rfl (any_of HT_.out (by kernel_rfl)) (fun _ _ _ h => h) (Or.inr ⟨by rfl, rfl⟩) ?ha24 ?hh24
   case ha24 => (simp only [Act.put, List.setIfInBounds_toArray, List.set_cons_zero, List.set_cons_succ, i64_w, i32_w]; rfl)
   refine pure_ (i := 24) (N := (some 34)) (v := undef) (a' := ?aa25) #[true, true, true, true, true, true, true, true, true, true, true, true, true, true, true, true, true, true, true, true, true, true, true, true, true, false, false] rfl rfl (any_of HT_.out (by kernel_rfl)) (fun _ _ _ h => h) (Or.inr ⟨by rfl, rfl⟩) ?ha25 ?hh25
   case ha25 => (simp only [Act.put, List.setIfInBounds_toArray, List.set_cons_zero, List.set_cons_succ, i64_w, i32_w]; rfl)
   refine pure_ (i := 25) (N := (some 35)) (v := ?vv26) (a' := ?aa26) #[true, true, true, true, true, true, true, true, true, true, true, true, true, true, true, true, true, true, true, true, true, true, true, true, true, true, false] rfl rfl (any_of HT_.out (by kernel_rfl)) (fun _ _ _ h => h) (Or.inl ⟨by rfl, ?hy26⟩) ?ha26 ?hh26
   case hy26 => (intro w'; go_simp; try with_reducible rfl)
   case ha26 => (simp only [Act.put, List.setIfInBounds_toArray, List.set_cons_zero, List.set_cons_succ, i64_w, i32_w]; rfl)
   refine pure_ (i := 26) (N := (some 2)) (v := ?vv27) (a' := ?aa27) #[true, true, true, true, true, true, true, true, true, true, true, true, true, true, true, true, true, true, true, true, true, true, true, true, true, true, true] rfl rfl (any_of HT_.out (by kernel_rfl)) (fun _ _ _ h => h) (Or.inl ⟨by rfl, ?hy27⟩) ?ha27 ?hh27
   case hy27 => (intro w'; go_simp; try with_reducible rfl)
   case ha27 => (simp only [Act.put, List.setIfInBounds_toArray, List.set_cons_zero, List.set_cons_succ, i64_w, i32_w]; rfl)
   refine done_ (done_of HT_.out (by kernel_rfl)) ?_
   go_wp2
   go_ret
   have hSb := hHeld.2.2.2.1
   refine ⟨?_, below_then HB.out HB.out.size hSb⟩
   rw [HM.out, HN.out, HA.out]
   show Ending.returned (Value.bool false) = _
   simp [HE.out]
  | false =>
   refine start_ (n := 27) (S := (fun W => W.cell? ⟨w.heap.size, 0, none⟩ = some (.string t) ∧ W.cell? ⟨w.heap.size, 3, none⟩ = some (.bool b3) ∧ W.cell? ⟨w.heap.size, 4, none⟩ = some (.bool b4) ∧ Since w.heap.size w' W)) (ds := []) #[false, false, false, false, false, false, false, false, false, false, false, false, false, false, false, false, false, false, false, false, false, false, false, false, false, false, false] (by kernel_rfl) rfl rfl ⟨h0, h3, h4, ⟨below_drew1 (Below.refl _ _), hsz1⟩⟩ (fun hHeld => ?_)
   refine with_tab may_tab (fun HT_ => ?_)
   refine pure_ (i := 0) (N := (some 10)) (v := ?vv29) (a' := ?aa29) #[true, false, false, false, false, false, false, false, false, false, false, false, false, false, false, false, false, false, false, false, false, false, false, false, false, false, false] rfl rfl (any_of HT_.out (by kernel_rfl)) (fun _ _ _ h => h) (Or.inl ⟨by rfl, ?hy29⟩) ?ha29 ?hh29
   case hy29 => (intro w'; go_simp; try with_reducible rfl)
   case ha29 => (simp only [Act.put, List.setIfInBounds_toArray, List.set_cons_zero, List.set_cons_succ, i64_w, i32_w]; rfl)
   refine take_ (i := 1) (N := (some 11)) (v := ?vv30) (a' := ?aa30) #[true, true, false, false, false, false, false, false, false, false, false, false, false, false, false, false, false, false, false, false, false, false, false, false, false, false, false] rfl rfl (take_of HT_.out (by kernel_rfl)) (fun _ _ _ h => h) (Or.inl ⟨by rfl, ?hy30⟩) hHeld ?ha30 ?hh30
   case hy30 => (intro w' hS; obtain ⟨hS0, hS3, hS4, hSb⟩ := hS; go_simp; try with_reducible rfl)
   case ha30 => (simp only [Act.put, List.setIfInBounds_toArray, List.set_cons_zero, List.set_cons_succ, i64_w, i32_w]; rfl)
   refine pure_ (i := 2) (N := (some 12)) (v := ?vv31) (a' := ?aa31) #[true, true, true, false, false, false, false, false, false, false, false, false, false, false, false, false, false, false, false, false, false, false, false, false, false, false, false] rfl rfl (any_of HT_.out (by kernel_rfl)) (fun _ _ _ h => h) (Or.inl ⟨by rfl, ?hy31⟩) ?ha31 ?hh31
   case hy31 => (intro w'; go_simp; try with_reducible rfl)
   case ha31 => (simp only [Act.put, List.setIfInBounds_toArray, List.set_cons_zero, List.set_cons_succ, i64_w, i32_w]; rfl)
   refine pure_ (i := 3) (N := (some 13)) (v := ?vv32) (a' := ?aa32) #[true, true, true, true, false, false, false, false, false, false, false, false, false, false, false, false, false, false, false, false, false, false, false, false, false, false, false] rfl rfl (any_of HT_.out (by kernel_rfl)) (fun _ _ _ h => h) (Or.inl ⟨by rfl, ?hy32⟩) ?ha32 ?hh32
   case hy32 => (intro w'; go_simp; try with_reducible rfl)
   case ha32 => (simp only [Act.put, List.setIfInBounds_toArray, List.set_cons_zero, List.set_cons_succ, i64_w, i32_w]; rfl)
   refine pure_ (i := 4) (N := (some 14)) (v := undef) (a' := ?aa33) #[true, true, true, true, true, false, false, false, false, false, false, false, false, false, false, false, false, false, false, false, false, false, false, false, false, false, false] rfl rfl (any_of HT_.out (by kernel_rfl)) (fun _ _ _ h => h) (Or.inr ⟨by rfl, rfl⟩) ?ha33 ?hh33
   case ha33 => (simp only [Act.put, List.setIfInBounds_toArray, List.set_cons_zero, List.set_cons_succ, i64_w, i32_w]; rfl)
   refine pure_ (i := 5) (N := (some 15)) (v := undef) (a' := ?aa34) #[true, true, true, true, true, true, false, false, false, false, false, false, false, false, false, false, false, false, false, false, false, false, false, false, false, false, false] rfl rfl (any_of HT_.out (by kernel_rfl)) (fun _ _ _ h => h) (Or.inr ⟨by rfl, rfl⟩) ?ha34 ?hh34
   case ha34 => (simp only [Act.put, List.setIfInBounds_toArray, List.set_cons_zero, List.set_cons_succ, i64_w, i32_w]; rfl)
   refine pure_ (i := 6) (N := (some 16)) (v := undef) (a' := ?aa35) #[true, true, true, true, true, true, true, false, false, false, false, false, false, false, false, false, false, false, false, false, false, false, false, false, false, false, false] rfl rfl (any_of HT_.out (by kernel_rfl)) (fun _ _ _ h => h) (Or.inr ⟨by rfl, rfl⟩) ?ha35 ?hh35
   case ha35 => (simp only [Act.put, List.setIfInBounds_toArray, List.set_cons_zero, List.set_cons_succ, i64_w, i32_w]; rfl)
   refine pure_ (i := 7) (N := (some 17)) (v := ?vv36) (a' := ?aa36) #[true, true, true, true, true, true, true, true, false, false, false, false, false, false, false, false, false, false, false, false, false, false, false, false, false, false, false] rfl rfl (any_of HT_.out (by kernel_rfl)) (fun _ _ _ h => h) (Or.inl ⟨by rfl, ?hy36⟩) ?ha36 ?hh36
   case hy36 => (intro w'; go_simp; try with_reducible rfl)
   case ha36 => (simp only [Act.put, List.setIfInBounds_toArray, List.set_cons_zero, List.set_cons_succ, i64_w, i32_w]; rfl)
   refine pure_ (i := 8) (N := (some 18)) (v := ?vv37) (a' := ?aa37) #[true, true, true, true, true, true, true, true, true, false, false, false, false, false, false, false, false, false, false, false, false, false, false, false, false, false, false] rfl rfl (any_of HT_.out (by kernel_rfl)) (fun _ _ _ h => h) (Or.inl ⟨by rfl, ?hy37⟩) ?ha37 ?hh37
   case hy37 => (intro w'; go_simp; try with_reducible rfl)
   case ha37 => (simp only [Act.put, List.setIfInBounds_toArray, List.set_cons_zero, List.set_cons_succ, i64_w, i32_w]; rfl)
   refine pure_ (i := 9) (N := (some 19)) (v := ?vv38) (a' := ?aa38) #[true, true, true, true, true, true, true, true, true, true, false, false, false, false, false, false, false, false, false, false, false, false, false, false, false, false, false] rfl rfl (any_of HT_.out (by kernel_rfl)) (fun _ _ _ h => h) (Or.inl ⟨by rfl, ?hy38⟩) ?ha38 ?hh38
   case hy38 => (intro w'; go_simp; try with_reducible rfl)
   case ha38 => (simp only [Act.put, List.setIfInBounds_toArray, List.set_cons_zero, List.set_cons_succ, i64_w, i32_w]; rfl)
   refine one_ (i := 10) (N := (some 20)) #[true, true, true, true, true, true, true, true, true, true, true, false, false, false, false, false, false, false, false, false, false, false, false, false, false, false, false] rfl rfl (one_of HT_.out (by kernel_rfl)) (by decide) (fun K hK => ?_)
   refine goes_ Tryz.func95 (by kernel_rfl) rfl #[.slice A3 (l1.length + l2.length) c3, .func (.func 96) #[] #[]] (by rfl) rfl rfl (by (try simp only [List.map_toArray, List.map_cons, List.map_nil]); first | done | rfl) ?_
   refine (hcf _ hHeld).mono ?_
   rintro e w3 ⟨rfl, hB3⟩
   refine ⟨_, rfl, ?_⟩
   refine hK.out _ _ (held_next hHeld hB3) (fun hHeld => ?_)
   clear hK K
   refine norm_ (a' := ?aa39) ?ha39 ?hh39
   case ha39 => (show Act.put _ (some 20) _ = _; simp only [Act.put, List.setIfInBounds_toArray, List.set_cons_zero, List.set_cons_succ, i64_w, i32_w]; rfl)
   refine pure_ (i := 11) (N := (some 21)) (v := ?vv40) (a' := ?aa40) #[true, true, true, true, true, true, true, true, true, true, true, true, false, false, false, false, false, false, false, false, false, false, false, false, false, false, false] rfl rfl (any_of HT_.out (by kernel_rfl)) (fun _ _ _ h => h) (Or.inl ⟨by rfl, ?hy40⟩) ?ha40 ?hh40
   case hy40 => (intro w'; go_simp; try with_reducible rfl)
   case ha40 => (simp only [Act.put, List.setIfInBounds_toArray, List.set_cons_zero, List.set_cons_succ, i64_w, i32_w]; rfl)
   refine pure_ (i := 12) (N := (some 22)) (v := ?vv41) (a' := ?aa41) #[true, true, true, true, true, true, true, true, true, true, true, true, true, false, false, false, false, false, false, false, false, false, false, false, false, false, false] rfl rfl (any_of HT_.out (by kernel_rfl)) (fun _ _ _ h => h) (Or.inl ⟨by rfl, ?hy41⟩) ?ha41 ?hh41
   case hy41 => (intro w'; go_simp; try with_reducible rfl)
   case ha41 => (simp only [Act.put, List.setIfInBounds_toArray, List.set_cons_zero, List.set_cons_succ, i64_w, i32_w]; rfl)
   refine pure_ (i := 13) (N := (some 23)) (v := ?vv42) (a' := ?aa42) #[true, true, true, true, true, true, true, true, true, true, true, true, true, true, false, false, false, false, false, false, false, false, false, false, false, false, false] rfl rfl (any_of HT_.out (by kernel_rfl)) (fun _ _ _ h => h) (Or.inl ⟨by rfl, ?hy42⟩) ?ha42 ?hh42
   case hy42 => (intro w'; go_simp; try with_reducible rfl)
   case ha42 => (simp only [Act.put, List.setIfInBounds_toArray, List.set_cons_zero, List.set_cons_succ, i64_w, i32_w]; rfl)
   refine pure_ (i := 14) (N := (some 24)) (v := ?vv43) (a' := ?aa43) #[true, true, true, true, true, true, true, true, true, true, true, true, true, true, true, false, false, false, false, false, false, false, false, false, false, false, false] rfl rfl (any_of HT_.out (by kernel_rfl)) (fun _ _ _ h => h) (Or.inl ⟨by rfl, ?hy43⟩) ?ha43 ?hh43
   case hy43 => (intro w'; go_simp; try with_reducible rfl)
   case ha43 => (simp only [Act.put, List.setIfInBounds_toArray, List.set_cons_zero, List.set_cons_succ, i64_w, i32_w]; rfl)
   refine pure_ (i := 15) (N := (some 25)) (v := ?vv44) (a' := ?aa44) #[true, true, true, true, true, true, true, true, true, true, true, true, true, true, true, true, false, false, false, false, false, false, false, false, false, false, false] rfl rfl (any_of HT_.out (by kernel_rfl)) (fun _ _ _ h => h) (Or.inl ⟨by rfl, ?hy44⟩) ?ha44 ?hh44
   case hy44 => (intro w'; go_simp; try with_reducible rfl)
   case ha44 => (simp only [Act.put, List.setIfInBounds_toArray, List.set_cons_zero, List.set_cons_succ, i64_w, i32_w]; rfl)
   refine pure_ (i := 16) (N := (some 26)) (v := ?vv45) (a' := ?aa45) #[true, true, true, true, true, true, true, true, true, true, true, true, true, true, true, true, true, false, false, false, false, false, false, false, false, false, false] rfl rfl (any_of HT_.out (by kernel_rfl)) (fun _ _ _ h => h) (Or.inl ⟨by rfl, ?hy45⟩) ?ha45 ?hh45
   case hy45 => (intro w'; go_simp; try with_reducible rfl)
   case ha45 => (simp only [Act.put, List.setIfInBounds_toArray, List.set_cons_zero, List.set_cons_succ, i64_w, i32_w]; rfl)
   refine take_ (i := 17) (N := (some 27)) (v := ?vv46) (a' := ?aa46) #[true, true, true, true, true, true, true, true, true, true, true, true, true, true, true, true, true, true, false, false, false, false, false, false, false, false, false] rfl rfl (take_of HT_.out (by kernel_rfl)) (fun _ _ _ h => h) (Or.inl ⟨by rfl, ?hy46⟩) hHeld ?ha46 ?hh46
   case hy46 => (intro w' hS; obtain ⟨hS0, hS3, hS4, hSb⟩ := hS; go_simp; try with_reducible rfl)
   case ha46 => (simp only [Act.put, List.setIfInBounds_toArray, List.set_cons_zero, List.set_cons_succ, i64_w, i32_w]; rfl)
   refine pure_ (i := 20) (N := (some 30)) (v := ?vv47) (a' := ?aa47) #[true, true, true, true, true, true, true, true, true, true, true, true, true, true, true, true, true, true, false, false, true, false, false, false, false, false, false] rfl rfl (any_of HT_.out (by kernel_rfl)) (fun _ _ _ h => h) (Or.inl ⟨by rfl, ?hy47⟩) ?ha47 ?hh47
   case hy47 => (intro w'; go_simp; try with_reducible rfl)
   case ha47 => (simp only [Act.put, List.setIfInBounds_toArray, List.set_cons_zero, List.set_cons_succ, i64_w, i32_w]; rfl)
   refine take_ (i := 21) (N := (some 31)) (v := ?vv48) (a' := ?aa48) #[true, true, true, true, true, true, true, true, true, true, true, true, true, true, true, true, true, true, false, false, true, true, false, false, false, false, false] rfl rfl (take_of HT_.out (by kernel_rfl)) (fun _ _ _ h => h) (Or.inl ⟨by rfl, ?hy48⟩) hHeld ?ha48 ?hh48
   case hy48 => (intro w' hS; obtain ⟨hS0, hS3, hS4, hSb⟩ := hS; go_simp; try with_reducible rfl)
   case ha48 => (simp only [Act.put, List.setIfInBounds_toArray, List.set_cons_zero, List.set_cons_succ, i64_w, i32_w]; rfl)
   refine one_ (i := 18) (N := (some 28)) #[true, true, true, true, true, true, true, true, true, true, true, true, true, true, true, true, true, true, true, false, true, true, false, false, false, false, false] rfl rfl (one_of HT_.out (by kernel_rfl)) (by decide) (fun K hK => ?_)
   refine goes_ Tryz.func59 (by kernel_rfl) rfl #[.bool b3] (by rfl) rfl rfl (by (try simp only [List.map_toArray, List.map_cons, List.map_nil]); first | done | rfl) ?_
   refine (truth_any _ _).mono ?_
   rintro e w4 ⟨rfl, rfl⟩
   refine ⟨_, rfl, ?_⟩
   refine hK.out _ _ (hHeld) (fun hHeld => ?_)
   clear hK K
   refine norm_ (a' := ?aa49) ?ha49 ?hh49
   case ha49 => (show Act.put _ (some 28) _ = _; simp only [Act.put, List.setIfInBounds_toArray, List.set_cons_zero, List.set_cons_succ, i64_w, i32_w]; rfl)
   refine pure_ (i := 19) (N := (some 29)) (v := ?vv50) (a' := ?aa50) #[true, true, true, true, true, true, true, true, true, true, true, true, true, true, true, true, true, true, true, true, true, true, false, false, false, false, false] rfl rfl (any_of HT_.out (by kernel_rfl)) (fun _ _ _ h => h) (Or.inl ⟨by rfl, ?hy50⟩) ?ha50 ?hh50
   case hy50 => (intro w'; go_simp; try with_reducible rfl)
   case ha50 => (simp only [Act.put, List.setIfInBounds_toArray, List.set_cons_zero, List.set_cons_succ, i64_w, i32_w]; rfl)
   refine one_ (i := 22) (N := (some 32)) #[true, true, true, true, true, true, true, true, true, true, true, true, true, true, true, true, true, true, true, true, true, true, true, false, false, false, false] rfl rfl (one_of HT_.out (by kernel_rfl)) (by decide) (fun K hK => ?_)
   refine goes_ Tryz.func59 (by kernel_rfl) rfl #[.bool b4] (by rfl) rfl rfl (by (try simp only [List.map_toArray, List.map_cons, List.map_nil]); first | done | rfl) ?_
   refine (truth_any _ _).mono ?_
   rintro e w5 ⟨rfl, rfl⟩
   refine ⟨_, rfl, ?_⟩
   refine hK.out _ _ (hHeld) (fun hHeld => ?_)
   clear hK K
   refine norm_ (a' := ?aa51) ?ha51 ?hh51
   case ha51 => (show Act.put _ (some 32) _ = _; simp only [Act.put, List.setIfInBounds_toArray, List.set_cons_zero, List.set_cons_succ, i64_w, i32_w]; rfl)
   refine pure_ (i := 23) (N := (some 33)) (v := ?vv52) (a' := ?aa52) #[true, true, true, true, true, true, true, true, true, true, true, true, true, true, true, true, true, true, true, true, true, true, true, true, false, false, false] rfl rfl (any_of HT_.out (by kernel_rfl)) (fun _ _ _ h => h) (Or.inl ⟨by rfl, ?hy52⟩) ?ha52 ?hh52
   case hy52 => (intro w'; go_simp; try with_reducible rfl)
   case ha52 => (simp only [Act.put, List.setIfInBounds_toArray, List.set_cons_zero, List.set_cons_succ, i64_w, i32_w]; rfl)
   refine pure_ (i := 24) (N := (some 34)) (v := ?vv53) (a' := ?aa53) #[true, true, true, true, true, true, true, true, true, true, true, true, true, true, true, true, true, true, true, true, true, true, true, true, true, false, false] rfl rfl (any_of HT_.out (by kernel_rfl)) (fun _ _ _ h => h) (Or.inl ⟨by rfl, ?hy53⟩) ?ha53 ?hh53
   case hy53 => (intro w'; go_simp; try with_reducible rfl)
   case ha53 => (simp only [Act.put, List.setIfInBounds_toArray, List.set_cons_zero, List.set_cons_succ, i64_w, i32_w]; rfl)
   refine pure_ (i := 25) (N := (some 35)) (v := ?vv54) (a' := ?aa54) #[true, true, true, true, true, true, true, true, true, true, true, true, true, true, true, true, true, true, true, true, true, true, true, true, true, true, false] rfl rfl (any_of HT_.out (by kernel_rfl)) (fun _ _ _ h => h) (Or.inl ⟨by rfl, ?hy54⟩) ?ha54 ?hh54
   case hy54 => (intro w'; go_simp; try with_reducible rfl)
   case ha54 => (simp only [Act.put, List.setIfInBounds_toArray, List.set_cons_zero, List.set_cons_succ, i64_w, i32_w]; rfl)
   refine pure_ (i := 26) (N := (some 2)) (v := ?vv55) (a' := ?aa55) #[true, true, true, true, true, true, true, true, true, true, true, true, true, true, true, true, true, true, true, true, true, true, true, true, true, true, true] rfl rfl (any_of HT_.out (by kernel_rfl)) (fun _ _ _ h => h) (Or.inl ⟨by rfl, ?hy55⟩) ?ha55 ?hh55
   case hy55 => (intro w'; go_simp; try with_reducible rfl)
   case ha55 => (simp only [Act.put, List.setIfInBounds_toArray, List.set_cons_zero, List.set_cons_succ, i64_w, i32_w]; rfl)
   refine done_ (done_of HT_.out (by kernel_rfl)) ?_
   go_wp2
   go_ret
   have hSb := hHeld.2.2.2.1
   refine ⟨?_, below_then HB.out HB.out.size hSb⟩
   rw [HM.out, HN.out, HA.out]
   have hw := may_sum l1 l2 b3 b4 HL.out
   show Ending.returned (Value.bool (decide (wrap64 (wrap64 ((l1.length : Int) + (l2.length : Int) + truthV b3) + truthV b4) ≤ 8))) = _
   rw [hw]
   simp [HE.out]
 ·have e1 : (t.toList == ([] : List UInt8)) = false := beq_eq_false_iff_ne.2 (by rw [Lib.toList_data]; exact hE)
  have e3 : (t.toList = []) = False := eq_false (by rw [Lib.toList_data]; exact hE)
  have HE := Aside0.mk hE
  clear hE
  cases bn with
  | false =>
   refine start_ (n := 27) (S := (fun W => W.cell? ⟨w.heap.size, 0, none⟩ = some (.string t) ∧ W.cell? ⟨w.heap.size, 3, none⟩ = some (.bool b3) ∧ W.cell? ⟨w.heap.size, 4, none⟩ = some (.bool b4) ∧ Since w.heap.size w' W)) (ds := []) #[false, false, false, false, false, false, false, false, false, false, false, false, false, false, false, false, false, false, false, false, false, false, false, false, false, false, false] (by kernel_rfl) rfl rfl ⟨h0, h3, h4, ⟨below_drew1 (Below.refl _ _), hsz1⟩⟩ (fun hHeld => ?_)
   refine with_tab may_tab (fun HT_ => ?_)
   refine pure_ (i := 0) (N := (some 10)) (v := ?vv57) (a' := ?aa57) #[true, false, false, false, false, false, false, false, false, false, false, false, false, false, false, false, false, false, false, false, false, false, false, false, false, false, false] rfl rfl (any_of HT_.out (by kernel_rfl)) (fun _ _ _ h => h) (Or.inl ⟨by rfl, ?hy57⟩) ?ha57 ?hh57
   case hy57 => (intro w'; go_simp; try with_reducible rfl)
   case ha57 => (simp only [Act.put, List.setIfInBounds_toArray, List.set_cons_zero, List.set_cons_succ, i64_w, i32_w]; rfl)
   refine take_ (i := 1) (N := (some 11)) (v := ?vv58) (a' := ?aa58) #[true, true, false, false, false, false, false, false, false, false, false, false, false, false, false, false, false, false, false, false, false, false, false, false, false, false, false] rfl rfl (take_of HT_.out (by kernel_rfl)) (fun _ _ _ h => h) (Or.inl ⟨by rfl, ?hy58⟩) hHeld ?ha58 ?hh58
   case hy58 => (intro w' hS; obtain ⟨hS0, hS3, hS4, hSb⟩ := hS; go_simp; try with_reducible rfl)
   case ha58 => (simp only [Act.put, List.setIfInBounds_toArray, List.set_cons_zero, List.set_cons_succ, i64_w, i32_w]; rfl)
   refine pure_ (i := 2) (N := (some 12)) (v := ?vv59) (a' := ?aa59) #[true, true, true, false, false, false, false, false, false, false, false, false, false, false, false, false, false, false, false, false, false, false, false, false, false, false, false] rfl rfl (any_of HT_.out (by kernel_rfl)) (fun _ _ _ h => h) (Or.inl ⟨by rfl, ?hy59⟩) ?ha59 ?hh59
   case hy59 => (intro w'; go_simp; try with_reducible rfl)
   case ha59 => (simp only [Act.put, List.setIfInBounds_toArray, List.set_cons_zero, List.set_cons_succ, i64_w, i32_w]; rfl)
   refine pure_ (i := 3) (N := (some 13)) (v := ?vv60) (a' := ?aa60) #[true, true, true, true, false, false, false, false, false, false, false, false, false, false, false, false, false, false, false, false, false, false, false, false, false, false, false] rfl rfl (any_of HT_.out (by kernel_rfl)) (fun _ _ _ h => h) (Or.inl ⟨by rfl, ?hy60⟩) ?ha60 ?hh60
   case hy60 => (intro w'; go_simp; try with_reducible rfl)
   case ha60 => (simp only [Act.put, List.setIfInBounds_toArray, List.set_cons_zero, List.set_cons_succ, i64_w, i32_w]; rfl)
   refine pure_ (i := 4) (N := (some 14)) (v := ?vv61) (a' := ?aa61) #[true, true, true, true, true, false, false, false, false, false, false, false, false, false, false, false, false, false, false, false, false, false, false, false, false, false, false] rfl rfl (any_of HT_.out (by kernel_rfl)) (fun _ _ _ h => h) (Or.inl ⟨by rfl, ?hy61⟩) ?ha61 ?hh61
   case hy61 => (intro w'; go_simp; try with_reducible rfl)
   case ha61 => (simp only [Act.put, List.setIfInBounds_toArray, List.set_cons_zero, List.set_cons_succ, i64_w, i32_w]; rfl)
   refine take_ (i := 5) (N := (some 15)) (v := ?vv62) (a' := ?aa62) #[true, true, true, true, true, true, false, false, false, false, false, false, false, false, false, false, false, false, false, false, false, false, false, false, false, false, false] rfl rfl (take_of HT_.out (by kernel_rfl)) (fun _ _ _ h => h) (Or.inl ⟨by rfl, ?hy62⟩) hHeld ?ha62 ?hh62
   case hy62 => (intro w' hS; obtain ⟨hS0, hS3, hS4, hSb⟩ := hS; go_simp; try with_reducible rfl)
   case ha62 => (simp only [Act.put, List.setIfInBounds_toArray, List.set_cons_zero, List.set_cons_succ, i64_w, i32_w]; rfl)
   refine one_ (i := 6) (N := (some 16)) #[true, true, true, true, true, true, true, false, false, false, false, false, false, false, false, false, false, false, false, false, false, false, false, false, false, false, false] rfl rfl (one_of HT_.out (by kernel_rfl)) (by decide) (fun K hK => ?_)
   refine goes_ Tryz.func94 (by kernel_rfl) rfl #[.string t] (by rfl) rfl rfl (by (try simp only [List.map_toArray, List.map_cons, List.map_nil]); first | done | rfl) ?_
   refine (hnm _).mono ?_
   rintro e w2 ⟨rfl, hB2⟩
   refine ⟨_, rfl, ?_⟩
   refine hK.out _ _ (held_next hHeld hB2) (fun hHeld => ?_)
   clear hK K
   refine norm_ (a' := ?aa63) ?ha63 ?hh63
   case ha63 => (show Act.put _ (some 16) _ = _; simp only [Act.put, List.setIfInBounds_toArray, List.set_cons_zero, List.set_cons_succ, i64_w, i32_w]; rfl)
   refine pure_ (i := 7) (N := (some 17)) (v := ?vv64) (a' := ?aa64) #[true, true, true, true, true, true, true, true, false, false, false, false, false, false, false, false, false, false, false, false, false, false, false, false, false, false, false] rfl rfl (any_of HT_.out (by kernel_rfl)) (fun _ _ _ h => h) (Or.inl ⟨by rfl, ?hy64⟩) ?ha64 ?hh64
   case hy64 => (intro w'; go_simp; try with_reducible rfl)
   case ha64 => (simp only [Act.put, List.setIfInBounds_toArray, List.set_cons_zero, List.set_cons_succ, i64_w, i32_w]; rfl)
   refine pure_ (i := 8) (N := (some 18)) (v := ?vv65) (a' := ?aa65) #[true, true, true, true, true, true, true, true, true, false, false, false, false, false, false, false, false, false, false, false, false, false, false, false, false, false, false] rfl rfl (any_of HT_.out (by kernel_rfl)) (fun _ _ _ h => h) (Or.inl ⟨by rfl, ?hy65⟩) ?ha65 ?hh65
   case hy65 => (intro w'; go_simp; try with_reducible rfl)
   case ha65 => (simp only [Act.put, List.setIfInBounds_toArray, List.set_cons_zero, List.set_cons_succ, i64_w, i32_w]; rfl)
   refine pure_ (i := 9) (N := (some 19)) (v := undef) (a' := ?aa66) #[true, true, true, true, true, true, true, true, true, true, false, false, false, false, false, false, false, false, false, false, false, false, false, false, false, false, false] rfl rfl (any_of HT_.out (by kernel_rfl)) (fun _ _ _ h => h) (Or.inr ⟨by rfl, rfl⟩) ?ha66 ?hh66
   case ha66 => (simp only [Act.put, List.setIfInBounds_toArray, List.set_cons_zero, List.set_cons_succ, i64_w, i32_w]; rfl)
   refine pure_ (i := 10) (N := (some 20)) (v := undef) (a' := ?aa67) #[true, true, true, true, true, true, true, true, true, true, true, false, false, false, false, false, false, false, false, false, false, false, false, false, false, false, false] rfl rfl (any_of HT_.out (by kernel_rfl)) (fun _ _ _ h => h) (Or.inr ⟨by rfl, rfl⟩) ?ha67 ?hh67
   case ha67 => (simp only [Act.put, List.setIfInBounds_toArray, List.set_cons_zero, List.set_cons_succ, i64_w, i32_w]; rfl)
   refine pure_ (i := 11) (N := (some 21)) (v := undef) (a' := ?aa68) #[true, true, true, true, true, true, true, true, true, true, true, true, false, false, false, false, false, false, false, false, false, false, false, false, false, false, false] rfl rfl (any_of HT_.out (by kernel_rfl)) (fun _ _ _ h => h) (Or.inr ⟨by rfl, rfl⟩) ?ha68 ?hh68
   case ha68 => (simp only [Act.put, List.setIfInBounds_toArray, List.set_cons_zero, List.set_cons_succ, i64_w, i32_w]; rfl)
   refine pure_ (i := 12) (N := (some 22)) (v := ?vv69) (a' := ?aa69) #[true, true, true, true, true, true, true, true, true, true, true, true, true, false, false, false, false, false, false, false, false, false, false, false, false, false, false] rfl rfl (any_of HT_.out (by kernel_rfl)) (fun _ _ _ h => h) (Or.inl ⟨by rfl, ?hy69⟩) ?ha69 ?hh69
   case hy69 => (intro w'; go_simp; try with_reducible rfl)
   case ha69 => (simp only [Act.put, List.setIfInBounds_toArray, List.set_cons_zero, List.set_cons_succ, i64_w, i32_w]; rfl)
   refine pure_ (i := 13) (N := (some 23)) (v := ?vv70) (a' := ?aa70) #[true, true, true, true, true, true, true, true, true, true, true, true, true, true, false, false, false, false, false, false, false, false, false, false, false, false, false] rfl rfl (any_of HT_.out (by kernel_rfl)) (fun _ _ _ h => h) (Or.inl ⟨by rfl, ?hy70⟩) ?ha70 ?hh70
   case hy70 => (intro w'; go_simp; try with_reducible rfl)
   case ha70 => (simp only [Act.put, List.setIfInBounds_toArray, List.set_cons_zero, List.set_cons_succ, i64_w, i32_w]; rfl)
   refine pure_ (i := 14) (N := (some 24)) (v := undef) (a' := ?aa71) #[true, true, true, true, true, true, true, true, true, true, true, true, true, true, true, false, false, false, false, false, false, false, false, false, false, false, false] rfl rfl (any_of HT_.out (by kernel_rfl)) (fun _ _ _ h => h) (Or.inr ⟨by rfl, rfl⟩) ?ha71 ?hh71
   case ha71 => (simp only [Act.put, List.setIfInBounds_toArray, List.set_cons_zero, List.set_cons_succ, i64_w, i32_w]; rfl)
   refine pure_ (i := 15) (N := (some 25)) (v := undef) (a' := ?aa72) #[true, true, true, true, true, true, true, true, true, true, true, true, true, true, true, true, false, false, false, false, false, false, false, false, false, false, false] rfl rfl (any_of HT_.out (by kernel_rfl)) (fun _ _ _ h => h) (Or.inr ⟨by rfl, rfl⟩) ?ha72 ?hh72
   case ha72 => (simp only [Act.put, List.setIfInBounds_toArray, List.set_cons_zero, List.set_cons_succ, i64_w, i32_w]; rfl)
   refine pure_ (i := 16) (N := (some 26)) (v := undef) (a' := ?aa73) #[true, true, true, true, true, true, true, true, true, true, true, true, true, true, true, true, true, false, false, false, false, false, false, false, false, false, false] rfl rfl (any_of HT_.out (by kernel_rfl)) (fun _ _ _ h => h) (Or.inr ⟨by rfl, rfl⟩) ?ha73 ?hh73
   case ha73 => (simp only [Act.put, List.setIfInBounds_toArray, List.set_cons_zero, List.set_cons_succ, i64_w, i32_w]; rfl)
   refine pure_ (i := 17) (N := (some 27)) (v := undef) (a' := ?aa74) #[true, true, true, true, true, true, true, true, true, true, true, true, true, true, true, true, true, true, false, false, false, false, false, false, false, false, false] rfl rfl (any_of HT_.out (by kernel_rfl)) (fun _ _ _ h => h) (Or.inr ⟨by rfl, rfl⟩) ?ha74 ?hh74
   case ha74 => (simp only [Act.put, List.setIfInBounds_toArray, List.set_cons_zero, List.set_cons_succ, i64_w, i32_w]; rfl)
   refine pure_ (i := 18) (N := (some 28)) (v := undef) (a' := ?aa75) #[true, true, true, true, true, true, true, true, true, true, true, true, true, true, true, true, true, true, true, false, false, false, false, false, false, false, false] rfl rfl (any_of HT_.out (by kernel_rfl)) (fun _ _ _ h => h) (Or.inr ⟨by rfl, rfl⟩) ?ha75 ?hh75
   case ha75 => (simp only [Act.put, List.setIfInBounds_toArray, List.set_cons_zero, List.set_cons_succ, i64_w, i32_w]; rfl)
   refine pure_ (i := 19) (N := (some 29)) (v := undef) (a' := ?aa76) #[true, true, true, true, true, true, true, true, true, true, true, true, true, true, true, true, true, true, true, true, false, false, false, false, false, false, false] rfl rfl (any_of HT_.out (by kernel_rfl)) (fun _ _ _ h => h) (Or.inr ⟨by rfl, rfl⟩) ?ha76 ?hh76
   case ha76 => (simp only [Act.put, List.setIfInBounds_toArray, List.set_cons_zero, List.set_cons_succ, i64_w, i32_w]; rfl)
   refine pure_ (i := 20) (N := (some 30)) (v := undef) (a' := ?aa77) #[true, true, true, true, true, true, true, true, true, true, true, true, true, true, true, true, true, true, true, true, true, false, false, false, false, false, false] rfl rfl (any_of HT_.out (by kernel_rfl)) (fun _ _ _ h => h) (Or.inr ⟨by rfl, rfl⟩) ?ha77 ?hh77
   case ha77 => (simp only [Act.put, List.setIfInBounds_toArray, List.set_cons_zero, List.set_cons_succ, i64_w, i32_w]; rfl)
   refine pure_ (i := 21) (N := (some 31)) (v := undef) (a' := ?aa78) #[true, true, true, true, true, true, true, true, true, true, true, true, true, true, true, true, true, true, true, true, true, true, false, false, false, false, false] rfl rfl (any_of HT_.out (by kernel_rfl)) (fun _ _ _ h => h) (Or.inr ⟨by rfl, rfl⟩) ?ha78 ?hh78
   case ha78 => (simp only [Act.put, List.setIfInBounds_toArray, List.set_cons_zero, List.set_cons_succ, i64_w, i32_w]; rfl)
   refine pure_ (i := 22) (N := (some 32)) (v := undef) (a' := ?aa79) #[true, true, true, true, true, true, true, true, true, true, true, true, true, true, true, true, true, true, true, true, true, true, true, false, false, false, false] rfl rfl (any_of HT_.out (by kernel_rfl)) (fun _ _ _ h => h) (Or.inr ⟨by rfl, rfl⟩) ?ha79 ?hh79
   case ha79 => (simp only [Act.put, List.setIfInBounds_toArray, List.set_cons_zero, List.set_cons_succ, i64_w, i32_w]; rfl)
   refine pure_ (i := 23) (N := (some 33)) (v := undef) (a' := ?aa80) #[true, true, true, true, true, true, true, true, true, true, true, true, true, true, true, true, true, true, true, true, true, true, true, true, false, false, false] rfl rfl (any_of HT_.out (by kernel_rfl)) (fun _ _ _ h => h) (Or.inr ⟨by rfl, rfl⟩) ?ha80 ?hh80
   case ha80 => (simp only [Act.put, List.setIfInBounds_toArray, List.set_cons_zero, List.set_cons_succ, i64_w, i32_w]; rfl)
   refine pure_ (i := 24) (N := (some 34)) (v := undef) (a' := ?aa81) #[true, true, true, true, true, true, true, true, true, true, true, true, true, true, true, true, true, true, true, true, true, true, true, true, true, false, false] rfl rfl (any_of HT_.out (by kernel_rfl)) (fun _ _ _ h => h) (Or.inr ⟨by rfl, rfl⟩) ?ha81 ?hh81
   case ha81 => (simp only [Act.put, List.setIfInBounds_toArray, List.set_cons_zero, List.set_cons_succ, i64_w, i32_w]; rfl)
   refine pure_ (i := 25) (N := (some 35)) (v := ?vv82) (a' := ?aa82) #[true, true, true, true, true, true, true, true, true, true, true, true, true, true, true, true, true, true, true, true, true, true, true, true, true, true, false] rfl rfl (any_of HT_.out (by kernel_rfl)) (fun _ _ _ h => h) (Or.inl ⟨by rfl, ?hy82⟩) ?ha82 ?hh82
   case hy82 => (intro w'; go_simp; try with_reducible rfl)
   case ha82 => (simp only [Act.put, List.setIfInBounds_toArray, List.set_cons_zero, List.set_cons_succ, i64_w, i32_w]; rfl)
   refine pure_ (i := 26) (N := (some 2)) (v := ?vv83) (a' := ?aa83) #[true, true, true, true, true, true, true, true, true, true, true, true, true, true, true, true, true, true, true, true, true, true, true, true, true, true, true] rfl rfl (any_of HT_.out (by kernel_rfl)) (fun _ _ _ h => h) (Or.inl ⟨by rfl, ?hy83⟩) ?ha83 ?hh83
   case hy83 => (intro w'; go_simp; try with_reducible rfl)
   case ha83 => (simp only [Act.put, List.setIfInBounds_toArray, List.set_cons_zero, List.set_cons_succ, i64_w, i32_w]; rfl)
   refine done_ (done_of HT_.out (by kernel_rfl)) ?_
   go_wp2
   go_ret
   have hSb := hHeld.2.2.2.1
   refine ⟨?_, below_then HB.out HB.out.size hSb⟩
   rw [HM.out, HN.out, HA.out]
   show Ending.returned (Value.bool false) = _
   simp [HE.out]
  | true =>
   cases ba with
   | true =>
    refine start_ (n := 27) (S := (fun W => W.cell? ⟨w.heap.size, 0, none⟩ = some (.string t) ∧ W.cell? ⟨w.heap.size, 3, none⟩ = some (.bool b3) ∧ W.cell? ⟨w.heap.size, 4, none⟩ = some (.bool b4) ∧ Since w.heap.size w' W)) (ds := []) #[false, false, false, false, false, false, false, false, false, false, false, false, false, false, false, false, false, false, false, false, false, false, false, false, false, false, false] (by kernel_rfl) rfl rfl ⟨h0, h3, h4, ⟨below_drew1 (Below.refl _ _), hsz1⟩⟩ (fun hHeld => ?_)
    refine with_tab may_tab (fun HT_ => ?_)
    refine pure_ (i := 0) (N := (some 10)) (v := ?vv85) (a' := ?aa85) #[true, false, false, false, false, false, false, false, false, false, false, false, false, false, false, false, false, false, false, false, false, false, false, false, false, false, false] rfl rfl (any_of HT_.out (by kernel_rfl)) (fun _ _ _ h => h) (Or.inl ⟨by rfl, ?hy85⟩) ?ha85 ?hh85
    case hy85 => (intro w'; go_simp; try with_reducible rfl)
    case ha85 => (simp only [Act.put, List.setIfInBounds_toArray, List.set_cons_zero, List.set_cons_succ, i64_w, i32_w]; rfl)
    refine take_ (i := 1) (N := (some 11)) (v := ?vv86) (a' := ?aa86) #[true, true, false, false, false, false, false, false, false, false, false, false, false, false, false, false, false, false, false, false, false, false, false, false, false, false, false] rfl rfl (take_of HT_.out (by kernel_rfl)) (fun _ _ _ h => h) (Or.inl ⟨by rfl, ?hy86⟩) hHeld ?ha86 ?hh86
    case hy86 => (intro w' hS; obtain ⟨hS0, hS3, hS4, hSb⟩ := hS; go_simp; try with_reducible rfl)
    case ha86 => (simp only [Act.put, List.setIfInBounds_toArray, List.set_cons_zero, List.set_cons_succ, i64_w, i32_w]; rfl)
    refine pure_ (i := 2) (N := (some 12)) (v := ?vv87) (a' := ?aa87) #[true, true, true, false, false, false, false, false, false, false, false, false, false, false, false, false, false, false, false, false, false, false, false, false, false, false, false] rfl rfl (any_of HT_.out (by kernel_rfl)) (fun _ _ _ h => h) (Or.inl ⟨by rfl, ?hy87⟩) ?ha87 ?hh87
    case hy87 => (intro w'; go_simp; try with_reducible rfl)
    case ha87 => (simp only [Act.put, List.setIfInBounds_toArray, List.set_cons_zero, List.set_cons_succ, i64_w, i32_w]; rfl)
    refine pure_ (i := 3) (N := (some 13)) (v := ?vv88) (a' := ?aa88) #[true, true, true, true, false, false, false, false, false, false, false, false, false, false, false, false, false, false, false, false, false, false, false, false, false, false, false] rfl rfl (any_of HT_.out (by kernel_rfl)) (fun _ _ _ h => h) (Or.inl ⟨by rfl, ?hy88⟩) ?ha88 ?hh88
    case hy88 => (intro w'; go_simp; try with_reducible rfl)
    case ha88 => (simp only [Act.put, List.setIfInBounds_toArray, List.set_cons_zero, List.set_cons_succ, i64_w, i32_w]; rfl)
    refine pure_ (i := 4) (N := (some 14)) (v := ?vv89) (a' := ?aa89) #[true, true, true, true, true, false, false, false, false, false, false, false, false, false, false, false, false, false, false, false, false, false, false, false, false, false, false] rfl rfl (any_of HT_.out (by kernel_rfl)) (fun _ _ _ h => h) (Or.inl ⟨by rfl, ?hy89⟩) ?ha89 ?hh89
    case hy89 => (intro w'; go_simp; try with_reducible rfl)
    case ha89 => (simp only [Act.put, List.setIfInBounds_toArray, List.set_cons_zero, List.set_cons_succ, i64_w, i32_w]; rfl)
    refine take_ (i := 5) (N := (some 15)) (v := ?vv90) (a' := ?aa90) #[true, true, true, true, true, true, false, false, false, false, false, false, false, false, false, false, false, false, false, false, false, false, false, false, false, false, false] rfl rfl (take_of HT_.out (by kernel_rfl)) (fun _ _ _ h => h) (Or.inl ⟨by rfl, ?hy90⟩) hHeld ?ha90 ?hh90
    case hy90 => (intro w' hS; obtain ⟨hS0, hS3, hS4, hSb⟩ := hS; go_simp; try with_reducible rfl)
    case ha90 => (simp only [Act.put, List.setIfInBounds_toArray, List.set_cons_zero, List.set_cons_succ, i64_w, i32_w]; rfl)
    refine one_ (i := 6) (N := (some 16)) #[true, true, true, true, true, true, true, false, false, false, false, false, false, false, false, false, false, false, false, false, false, false, false, false, false, false, false] rfl rfl (one_of HT_.out (by kernel_rfl)) (by decide) (fun K hK => ?_)
    refine goes_ Tryz.func94 (by kernel_rfl) rfl #[.string t] (by rfl) rfl rfl (by (try simp only [List.map_toArray, List.map_cons, List.map_nil]); first | done | rfl) ?_
    refine (hnm _).mono ?_
    rintro e w2 ⟨rfl, hB2⟩
    refine ⟨_, rfl, ?_⟩
    refine hK.out _ _ (held_next hHeld hB2) (fun hHeld => ?_)
    clear hK K
    refine norm_ (a' := ?aa91) ?ha91 ?hh91
    case ha91 => (show Act.put _ (some 16) _ = _; simp only [Act.put, List.setIfInBounds_toArray, List.set_cons_zero, List.set_cons_succ, i64_w, i32_w]; rfl)
    refine pure_ (i := 7) (N := (some 17)) (v := ?vv92) (a' := ?aa92) #[true, true, true, true, true, true, true, true, false, false, false, false, false, false, false, false, false, false, false, false, false, false, false, false, false, false, false] rfl rfl (any_of HT_.out (by kernel_rfl)) (fun _ _ _ h => h) (Or.inl ⟨by rfl, ?hy92⟩) ?ha92 ?hh92
    case hy92 => (intro w'; go_simp; try with_reducible rfl)
    case ha92 => (simp only [Act.put, List.setIfInBounds_toArray, List.set_cons_zero, List.set_cons_succ, i64_w, i32_w]; rfl)
    refine pure_ (i := 8) (N := (some 18)) (v := ?vv93) (a' := ?aa93) #[true, true, true, true, true, true, true, true, true, false, false, false, false, false, false, false, false, false, false, false, false, false, false, false, false, false, false] rfl rfl (any_of HT_.out (by kernel_rfl)) (fun _ _ _ h => h) (Or.inl ⟨by rfl, ?hy93⟩) ?ha93 ?hh93
    case hy93 => (intro w'; go_simp; try with_reducible rfl)
    case ha93 => (simp only [Act.put, List.setIfInBounds_toArray, List.set_cons_zero, List.set_cons_succ, i64_w, i32_w]; rfl)
    refine pure_ (i := 9) (N := (some 19)) (v := ?vv94) (a' := ?aa94) #[true, true, true, true, true, true, true, true, true, true, false, false, false, false, false, false, false, false, false, false, false, false, false, false, false, false, false] rfl rfl (any_of HT_.out (by kernel_rfl)) (fun _ _ _ h => h) (Or.inl ⟨by rfl, ?hy94⟩) ?ha94 ?hh94
    case hy94 => (intro w'; go_simp; try with_reducible rfl)
    case ha94 => (simp only [Act.put, List.setIfInBounds_toArray, List.set_cons_zero, List.set_cons_succ, i64_w, i32_w]; rfl)
    refine one_ (i := 10) (N := (some 20)) #[true, true, true, true, true, true, true, true, true, true, true, false, false, false, false, false, false, false, false, false, false, false, false, false, false, false, false] rfl rfl (one_of HT_.out (by kernel_rfl)) (by decide) (fun K hK => ?_)
    refine goes_ Tryz.func95 (by kernel_rfl) rfl #[.slice A3 (l1.length + l2.length) c3, .func (.func 96) #[] #[]] (by rfl) rfl rfl (by (try simp only [List.map_toArray, List.map_cons, List.map_nil]); first | done | rfl) ?_
    refine (hcf _ hHeld).mono ?_
    rintro e w3 ⟨rfl, hB3⟩
    refine ⟨_, rfl, ?_⟩
    refine hK.out _ _ (held_next hHeld hB3) (fun hHeld => ?_)
    clear hK K
    refine norm_ (a' := ?aa95) ?ha95 ?hh95
    case ha95 => (show Act.put _ (some 20) _ = _; simp only [Act.put, List.setIfInBounds_toArray, List.set_cons_zero, List.set_cons_succ, i64_w, i32_w]; rfl)
    refine pure_ (i := 11) (N := (some 21)) (v := ?vv96) (a' := ?aa96) #[true, true, true, true, true, true, true, true, true, true, true, true, false, false, false, false, false, false, false, false, false, false, false, false, false, false, false] rfl rfl (any_of HT_.out (by kernel_rfl)) (fun _ _ _ h => h) (Or.inl ⟨by rfl, ?hy96⟩) ?ha96 ?hh96
    case hy96 => (intro w'; go_simp; try with_reducible rfl)
    case ha96 => (simp only [Act.put, List.setIfInBounds_toArray, List.set_cons_zero, List.set_cons_succ, i64_w, i32_w]; rfl)
    refine pure_ (i := 12) (N := (some 22)) (v := ?vv97) (a' := ?aa97) #[true, true, true, true, true, true, true, true, true, true, true, true, true, false, false, false, false, false, false, false, false, false, false, false, false, false, false] rfl rfl (any_of HT_.out (by kernel_rfl)) (fun _ _ _ h => h) (Or.inl ⟨by rfl, ?hy97⟩) ?ha97 ?hh97
    case hy97 => (intro w'; go_simp; try with_reducible rfl)
    case ha97 => (simp only [Act.put, List.setIfInBounds_toArray, List.set_cons_zero, List.set_cons_succ, i64_w, i32_w]; rfl)
    refine pure_ (i := 13) (N := (some 23)) (v := ?vv98) (a' := ?aa98) #[true, true, true, true, true, true, true, true, true, true, true, true, true, true, false, false, false, false, false, false, false, false, false, false, false, false, false] rfl rfl (any_of HT_.out (by kernel_rfl)) (fun _ _ _ h => h) (Or.inl ⟨by rfl, ?hy98⟩) ?ha98 ?hh98
    case hy98 => (intro w'; go_simp; try with_reducible rfl)
    case ha98 => (simp only [Act.put, List.setIfInBounds_toArray, List.set_cons_zero, List.set_cons_succ, i64_w, i32_w]; rfl)
    refine pure_ (i := 14) (N := (some 24)) (v := undef) (a' := ?aa99) #[true, true, true, true, true, true, true, true, true, true, true, true, true, true, true, false, false, false, false, false, false, false, false, false, false, false, false] rfl rfl (any_of HT_.out (by kernel_rfl)) (fun _ _ _ h => h) (Or.inr ⟨by rfl, rfl⟩) ?ha99 ?hh99
    case ha99 => (simp only [Act.put, List.setIfInBounds_toArray, List.set_cons_zero, List.set_cons_succ, i64_w, i32_w]; rfl)
    refine pure_ (i := 15) (N := (some 25)) (v := undef) (a' := ?aa100) #[true, true, true, true, true, true, true, true, true, true, true, true, true, true, true, true, false, false, false, false, false, false, false, false, false, false, false] rfl rfl (any_of HT_.out (by kernel_rfl)) (fun _ _ _ h => h) (Or.inr ⟨by rfl, rfl⟩) ?ha100 ?hh100
    case ha100 => (simp only [Act.put, List.setIfInBounds_toArray, List.set_cons_zero, List.set_cons_succ, i64_w, i32_w]; rfl)
    refine pure_ (i := 16) (N := (some 26)) (v := undef) (a' := ?aa101) #[true, true, true, true, true, true, true, true, true, true, true, true, true, true, true, true, true, false, false, false, false, false, false, false, false, false, false] rfl rfl (any_of HT_.out (by kernel_rfl)) (fun _ _ _ h => h) (Or.inr ⟨by rfl, rfl⟩) ?ha101 ?hh101
    case ha101 => (simp only [Act.put, List.setIfInBounds_toArray, List.set_cons_zero, List.set_cons_succ, i64_w, i32_w]; rfl)
    refine pure_ (i := 17) (N := (some 27)) (v := undef) (a' := ?aa102) #[true, true, true, true, true, true, true, true, true, true, true, true, true, true, true, true, true, true, false, false, false, false, false, false, false, false, false] rfl rfl (any_of HT_.out (by kernel_rfl)) (fun _ _ _ h => h) (Or.inr ⟨by rfl, rfl⟩) ?ha102 ?hh102
    case ha102 => (simp only [Act.put, List.setIfInBounds_toArray, List.set_cons_zero, List.set_cons_succ, i64_w, i32_w]; rfl)
    refine pure_ (i := 18) (N := (some 28)) (v := undef) (a' := ?aa103) #[true, true, true, true, true, true, true, true, true, true, true, true, true, true, true, true, true, true, true, false, false, false, false, false, false, false, false] rfl rfl (any_of HT_.out (by kernel_rfl)) (fun _ _ _ h => h) (Or.inr ⟨by rfl, rfl⟩) ?ha103 ?hh103
    case ha103 => (simp only [Act.put, List.setIfInBounds_toArray, List.set_cons_zero, List.set_cons_succ, i64_w, i32_w]; rfl)
    refine pure_ (i := 19) (N := (some 29)) (v := undef) (a' := ?aa104) #[true, true, true, true, true, true, true, true, true, true, true, true, true, true, true, true, true, true, true, true, false, false, false, false, false, false, false] rfl rfl (any_of HT_.out (by kernel_rfl)) (fun _ _ _ h => h) (Or.inr ⟨by rfl, rfl⟩) ?ha104 ?hh104
    case ha104 => (simp only [Act.put, List.setIfInBounds_toArray, List.set_cons_zero, List.set_cons_succ, i64_w, i32_w]; rfl)
    refine pure_ (i := 20) (N := (some 30)) (v := undef) (a' := ?aa105) #[true, true, true, true, true, true, true, true, true, true, true, true, true, true, true, true, true, true, true, true, true, false, false, false, false, false, false] rfl rfl (any_of HT_.out (by kernel_rfl)) (fun _ _ _ h => h) (Or.inr ⟨by rfl, rfl⟩) ?ha105 ?hh105
    case ha105 => (simp only [Act.put, List.setIfInBounds_toArray, List.set_cons_zero, List.set_cons_succ, i64_w, i32_w]; rfl)
    refine pure_ (i := 21) (N := (some 31)) (v := undef) (a' := ?aa106) #[true, true, true, true, true, true, true, true, true, true, true, true, true, true, true, true, true, true, true, true, true, true, false, false, false, false, false] rfl rfl (any_of HT_.out (by kernel_rfl)) (fun _ _ _ h => h) (Or.inr ⟨by rfl, rfl⟩) ?ha106 ?hh106
    case ha106 => (simp only [Act.put, List.setIfInBounds_toArray, List.set_cons_zero, List.set_cons_succ, i64_w, i32_w]; rfl)
    refine pure_ (i := 22) (N := (some 32)) (v := undef) (a' := ?aa107) #[true, true, true, true, true, true, true, true, true, true, true, true, true, true, true, true, true, true, true, true, true, true, true, false, false, false, false] rfl rfl (any_of HT_.out (by kernel_rfl)) (fun _ _ _ h => h) (Or.inr ⟨by rfl, rfl⟩) ?ha107 ?hh107
    case ha107 => (simp only [Act.put, List.setIfInBounds_toArray, List.set_cons_zero, List.set_cons_succ, i64_w, i32_w]; rfl)
    refine pure_ (i := 23) (N := (some 33)) (v := undef) (a' := ?aa108) #[true, true, true, true, true, true, true, true, true, true, true, true, true, true, true, true, true, true, true, true, true, true, true, true, false, false, false] rfl rfl (any_of HT_.out (by kernel_rfl)) (fun _ _ _ h => h) (Or.inr ⟨by rfl, rfl⟩) ?ha108 ?hh108
    case ha108 => (simp only [Act.put, List.setIfInBounds_toArray, List.set_cons_zero, List.set_cons_succ, i64_w, i32_w]; rfl)
    refine pure_ (i := 24) (N := (some 34)) (v := undef) (a' := ?aa109) #[true, true, true, true, true, true, true, true, true, true, true, true, true, true, true, true, true, true, true, true, true, true, true, true, true, false, false] rfl rfl (any_of HT_.out (by kernel_rfl)) (fun _ _ _ h => h) (Or.inr ⟨by rfl, rfl⟩) ?ha109 ?hh109
    case ha109 => (simp only [Act.put, List.setIfInBounds_toArray, List.set_cons_zero, List.set_cons_succ, i64_w, i32_w]; rfl)
    refine pure_ (i := 25) (N := (some 35)) (v := ?vv110) (a' := ?aa110) #[true, true, true, true, true, true, true, true, true, true, true, true, true, true, true, true, true, true, true, true, true, true, true, true, true, true, false] rfl rfl (any_of HT_.out (by kernel_rfl)) (fun _ _ _ h => h) (Or.inl ⟨by rfl, ?hy110⟩) ?ha110 ?hh110
    case hy110 => (intro w'; go_simp; try with_reducible rfl)
    case ha110 => (simp only [Act.put, List.setIfInBounds_toArray, List.set_cons_zero, List.set_cons_succ, i64_w, i32_w]; rfl)
    refine pure_ (i := 26) (N := (some 2)) (v := ?vv111) (a' := ?aa111) #[true, true, true, true, true, true, true, true, true, true, true, true, true, true, true, true, true, true, true, true, true, true, true, true, true, true, true] rfl rfl (any_of HT_.out (by kernel_rfl)) (fun _ _ _ h => h) (Or.inl ⟨by rfl, ?hy111⟩) ?ha111 ?hh111
    case hy111 => (intro w'; go_simp; try with_reducible rfl)
    case ha111 => (simp only [Act.put, List.setIfInBounds_toArray, List.set_cons_zero, List.set_cons_succ, i64_w, i32_w]; rfl)
    refine done_ (done_of HT_.out (by kernel_rfl)) ?_
    go_wp2
    go_ret
    have hSb := hHeld.2.2.2.1
    refine ⟨?_, below_then HB.out HB.out.size hSb⟩
    rw [HM.out, HN.out, HA.out]
    show Ending.returned (Value.bool false) = _
    simp [HE.out]
   | false =>
    refine start_ (n := 27) (S := (fun W => W.cell? ⟨w.heap.size, 0, none⟩ = some (.string t) ∧ W.cell? ⟨w.heap.size, 3, none⟩ = some (.bool b3) ∧ W.cell? ⟨w.heap.size, 4, none⟩ = some (.bool b4) ∧ Since w.heap.size w' W)) (ds := []) #[false, false, false, false, false, false, false, false, false, false, false, false, false, false, false, false, false, false, false, false, false, false, false, false, false, false, false] (by kernel_rfl) rfl rfl ⟨h0, h3, h4, ⟨below_drew1 (Below.refl _ _), hsz1⟩⟩ (fun hHeld => ?_)
    refine with_tab may_tab (fun HT_ => ?_)
    refine pure_ (i := 0) (N := (some 10)) (v := ?vv113) (a' := ?aa113) #[true, false, false, false, false, false, false, false, false, false, false, false, false, false, false, false, false, false, false, false, false, false, false, false, false, false, false] rfl rfl (any_of HT_.out (by kernel_rfl)) (fun _ _ _ h => h) (Or.inl ⟨by rfl, ?hy113⟩) ?ha113 ?hh113
    case hy113 => (intro w'; go_simp; try with_reducible rfl)
    case ha113 => (simp only [Act.put, List.setIfInBounds_toArray, List.set_cons_zero, List.set_cons_succ, i64_w, i32_w]; rfl)
    refine take_ (i := 1) (N := (some 11)) (v := ?vv114) (a' := ?aa114) #[true, true, false, false, false, false, false, false, false, false, false, false, false, false, false, false, false, false, false, false, false, false, false, false, false, false, false] rfl rfl (take_of HT_.out (by kernel_rfl)) (fun _ _ _ h => h) (Or.inl ⟨by rfl, ?hy114⟩) hHeld ?ha114 ?hh114
    case hy114 => (intro w' hS; obtain ⟨hS0, hS3, hS4, hSb⟩ := hS; go_simp; try with_reducible rfl)
    case ha114 => (simp only [Act.put, List.setIfInBounds_toArray, List.set_cons_zero, List.set_cons_succ, i64_w, i32_w]; rfl)
    refine pure_ (i := 2) (N := (some 12)) (v := ?vv115) (a' := ?aa115) #[true, true, true, false, false, false, false, false, false, false, false, false, false, false, false, false, false, false, false, false, false, false, false, false, false, false, false] rfl rfl (any_of HT_.out (by kernel_rfl)) (fun _ _ _ h => h) (Or.inl ⟨by rfl, ?hy115⟩) ?ha115 ?hh115
    case hy115 => (intro w'; go_simp; try with_reducible rfl)
    case ha115 => (simp only [Act.put, List.setIfInBounds_toArray, List.set_cons_zero, List.set_cons_succ, i64_w, i32_w]; rfl)
    refine pure_ (i := 3) (N := (some 13)) (v := ?vv116) (a' := ?aa116) #[true, true, true, true, false, false, false, false, false, false, false, false, false, false, false, false, false, false, false, false, false, false, false, false, false, false, false] rfl rfl (any_of HT_.out (by kernel_rfl)) (fun _ _ _ h => h) (Or.inl ⟨by rfl, ?hy116⟩) ?ha116 ?hh116
    case hy116 => (intro w'; go_simp; try with_reducible rfl)
    case ha116 => (simp only [Act.put, List.setIfInBounds_toArray, List.set_cons_zero, List.set_cons_succ, i64_w, i32_w]; rfl)
    refine pure_ (i := 4) (N := (some 14)) (v := ?vv117) (a' := ?aa117) #[true, true, true, true, true, false, false, false, false, false, false, false, false, false, false, false, false, false, false, false, false, false, false, false, false, false, false] rfl rfl (any_of HT_.out (by kernel_rfl)) (fun _ _ _ h => h) (Or.inl ⟨by rfl, ?hy117⟩) ?ha117 ?hh117
    case hy117 => (intro w'; go_simp; try with_reducible rfl)
    case ha117 => (simp only [Act.put, List.setIfInBounds_toArray, List.set_cons_zero, List.set_cons_succ, i64_w, i32_w]; rfl)
    refine take_ (i := 5) (N := (some 15)) (v := ?vv118) (a' := ?aa118) #[true, true, true, true, true, true, false, false, false, false, false, false, false, false, false, false, false, false, false, false, false, false, false, false, false, false, false] rfl rfl (take_of HT_.out (by kernel_rfl)) (fun _ _ _ h => h) (Or.inl ⟨by rfl, ?hy118⟩) hHeld ?ha118 ?hh118
    case hy118 => (intro w' hS; obtain ⟨hS0, hS3, hS4, hSb⟩ := hS; go_simp; try with_reducible rfl)
    case ha118 => (simp only [Act.put, List.setIfInBounds_toArray, List.set_cons_zero, List.set_cons_succ, i64_w, i32_w]; rfl)
    refine one_ (i := 6) (N := (some 16)) #[true, true, true, true, true, true, true, false, false, false, false, false, false, false, false, false, false, false, false, false, false, false, false, false, false, false, false] rfl rfl (one_of HT_.out (by kernel_rfl)) (by decide) (fun K hK => ?_)
    refine goes_ Tryz.func94 (by kernel_rfl) rfl #[.string t] (by rfl) rfl rfl (by (try simp only [List.map_toArray, List.map_cons, List.map_nil]); first | done | rfl) ?_
    refine (hnm _).mono ?_
    rintro e w2 ⟨rfl, hB2⟩
    refine ⟨_, rfl, ?_⟩
    refine hK.out _ _ (held_next hHeld hB2) (fun hHeld => ?_)
    clear hK K
    refine norm_ (a' := ?aa119) ?ha119 ?hh119
    case ha119 => (show Act.put _ (some 16) _ = _; simp only [Act.put, List.setIfInBounds_toArray, List.set_cons_zero, List.set_cons_succ, i64_w, i32_w]; rfl)
    refine pure_ (i := 7) (N := (some 17)) (v := ?vv120) (a' := ?aa120) #[true, true, true, true, true, true, true, true, false, false, false, false, false, false, false, false, false, false, false, false, false, false, false, false, false, false, false] rfl rfl (any_of HT_.out (by kernel_rfl)) (fun _ _ _ h => h) (Or.inl ⟨by rfl, ?hy120⟩) ?ha120 ?hh120
    case hy120 => (intro w'; go_simp; try with_reducible rfl)
    case ha120 => (simp only [Act.put, List.setIfInBounds_toArray, List.set_cons_zero, List.set_cons_succ, i64_w, i32_w]; rfl)
    refine pure_ (i := 8) (N := (some 18)) (v := ?vv121) (a' := ?aa121) #[true, true, true, true, true, true, true, true, true, false, false, false, false, false, false, false, false, false, false, false, false, false, false, false, false, false, false] rfl rfl (any_of HT_.out (by kernel_rfl)) (fun _ _ _ h => h) (Or.inl ⟨by rfl, ?hy121⟩) ?ha121 ?hh121
    case hy121 => (intro w'; go_simp; try with_reducible rfl)
    case ha121 => (simp only [Act.put, List.setIfInBounds_toArray, List.set_cons_zero, List.set_cons_succ, i64_w, i32_w]; rfl)
    refine pure_ (i := 9) (N := (some 19)) (v := ?vv122) (a' := ?aa122) #[true, true, true, true, true, true, true, true, true, true, false, false, false, false, false, false, false, false, false, false, false, false, false, false, false, false, false] rfl rfl (any_of HT_.out (by kernel_rfl)) (fun _ _ _ h => h) (Or.inl ⟨by rfl, ?hy122⟩) ?ha122 ?hh122
    case hy122 => (intro w'; go_simp; try with_reducible rfl)
    case ha122 => (simp only [Act.put, List.setIfInBounds_toArray, List.set_cons_zero, List.set_cons_succ, i64_w, i32_w]; rfl)
    refine one_ (i := 10) (N := (some 20)) #[true, true, true, true, true, true, true, true, true, true, true, false, false, false, false, false, false, false, false, false, false, false, false, false, false, false, false] rfl rfl (one_of HT_.out (by kernel_rfl)) (by decide) (fun K hK => ?_)
    refine goes_ Tryz.func95 (by kernel_rfl) rfl #[.slice A3 (l1.length + l2.length) c3, .func (.func 96) #[] #[]] (by rfl) rfl rfl (by (try simp only [List.map_toArray, List.map_cons, List.map_nil]); first | done | rfl) ?_
    refine (hcf _ hHeld).mono ?_
    rintro e w3 ⟨rfl, hB3⟩
    refine ⟨_, rfl, ?_⟩
    refine hK.out _ _ (held_next hHeld hB3) (fun hHeld => ?_)
    clear hK K
    refine norm_ (a' := ?aa123) ?ha123 ?hh123
    case ha123 => (show Act.put _ (some 20) _ = _; simp only [Act.put, List.setIfInBounds_toArray, List.set_cons_zero, List.set_cons_succ, i64_w, i32_w]; rfl)
    refine pure_ (i := 11) (N := (some 21)) (v := ?vv124) (a' := ?aa124) #[true, true, true, true, true, true, true, true, true, true, true, true, false, false, false, false, false, false, false, false, false, false, false, false, false, false, false] rfl rfl (any_of HT_.out (by kernel_rfl)) (fun _ _ _ h => h) (Or.inl ⟨by rfl, ?hy124⟩) ?ha124 ?hh124
    case hy124 => (intro w'; go_simp; try with_reducible rfl)
    case ha124 => (simp only [Act.put, List.setIfInBounds_toArray, List.set_cons_zero, List.set_cons_succ, i64_w, i32_w]; rfl)
    refine pure_ (i := 12) (N := (some 22)) (v := ?vv125) (a' := ?aa125) #[true, true, true, true, true, true, true, true, true, true, true, true, true, false, false, false, false, false, false, false, false, false, false, false, false, false, false] rfl rfl (any_of HT_.out (by kernel_rfl)) (fun _ _ _ h => h) (Or.inl ⟨by rfl, ?hy125⟩) ?ha125 ?hh125
    case hy125 => (intro w'; go_simp; try with_reducible rfl)
    case ha125 => (simp only [Act.put, List.setIfInBounds_toArray, List.set_cons_zero, List.set_cons_succ, i64_w, i32_w]; rfl)
    refine pure_ (i := 13) (N := (some 23)) (v := ?vv126) (a' := ?aa126) #[true, true, true, true, true, true, true, true, true, true, true, true, true, true, false, false, false, false, false, false, false, false, false, false, false, false, false] rfl rfl (any_of HT_.out (by kernel_rfl)) (fun _ _ _ h => h) (Or.inl ⟨by rfl, ?hy126⟩) ?ha126 ?hh126
    case hy126 => (intro w'; go_simp; try with_reducible rfl)
    case ha126 => (simp only [Act.put, List.setIfInBounds_toArray, List.set_cons_zero, List.set_cons_succ, i64_w, i32_w]; rfl)
    refine pure_ (i := 14) (N := (some 24)) (v := ?vv127) (a' := ?aa127) #[true, true, true, true, true, true, true, true, true, true, true, true, true, true, true, false, false, false, false, false, false, false, false, false, false, false, false] rfl rfl (any_of HT_.out (by kernel_rfl)) (fun _ _ _ h => h) (Or.inl ⟨by rfl, ?hy127⟩) ?ha127 ?hh127
    case hy127 => (intro w'; go_simp; try with_reducible rfl)
    case ha127 => (simp only [Act.put, List.setIfInBounds_toArray, List.set_cons_zero, List.set_cons_succ, i64_w, i32_w]; rfl)
    refine pure_ (i := 15) (N := (some 25)) (v := ?vv128) (a' := ?aa128) #[true, true, true, true, true, true, true, true, true, true, true, true, true, true, true, true, false, false, false, false, false, false, false, false, false, false, false] rfl rfl (any_of HT_.out (by kernel_rfl)) (fun _ _ _ h => h) (Or.inl ⟨by rfl, ?hy128⟩) ?ha128 ?hh128
    case hy128 => (intro w'; go_simp; try with_reducible rfl)
    case ha128 => (simp only [Act.put, List.setIfInBounds_toArray, List.set_cons_zero, List.set_cons_succ, i64_w, i32_w]; rfl)
    refine pure_ (i := 16) (N := (some 26)) (v := ?vv129) (a' := ?aa129) #[true, true, true, true, true, true, true, true, true, true, true, true, true, true, true, true, true, false, false, false, false, false, false, false, false, false, false] rfl rfl (any_of HT_.out (by kernel_rfl)) (fun _ _ _ h => h) (Or.inl ⟨by rfl, ?hy129⟩) ?ha129 ?hh129
    case hy129 => (intro w'; go_simp; try with_reducible rfl)
    case ha129 => (simp only [Act.put, List.setIfInBounds_toArray, List.set_cons_zero, List.set_cons_succ, i64_w, i32_w]; rfl)
    refine take_ (i := 17) (N := (some 27)) (v := ?vv130) (a' := ?aa130) #[true, true, true, true, true, true, true, true, true, true, true, true, true, true, true, true, true, true, false, false, false, false, false, false, false, false, false] rfl rfl (take_of HT_.out (by kernel_rfl)) (fun _ _ _ h => h) (Or.inl ⟨by rfl, ?hy130⟩) hHeld ?ha130 ?hh130
    case hy130 => (intro w' hS; obtain ⟨hS0, hS3, hS4, hSb⟩ := hS; go_simp; try with_reducible rfl)
    case ha130 => (simp only [Act.put, List.setIfInBounds_toArray, List.set_cons_zero, List.set_cons_succ, i64_w, i32_w]; rfl)
    refine pure_ (i := 20) (N := (some 30)) (v := ?vv131) (a' := ?aa131) #[true, true, true, true, true, true, true, true, true, true, true, true, true, true, true, true, true, true, false, false, true, false, false, false, false, false, false] rfl rfl (any_of HT_.out (by kernel_rfl)) (fun _ _ _ h => h) (Or.inl ⟨by rfl, ?hy131⟩) ?ha131 ?hh131
    case hy131 => (intro w'; go_simp; try with_reducible rfl)
    case ha131 => (simp only [Act.put, List.setIfInBounds_toArray, List.set_cons_zero, List.set_cons_succ, i64_w, i32_w]; rfl)
    refine take_ (i := 21) (N := (some 31)) (v := ?vv132) (a' := ?aa132) #[true, true, true, true, true, true, true, true, true, true, true, true, true, true, true, true, true, true, false, false, true, true, false, false, false, false, false] rfl rfl (take_of HT_.out (by kernel_rfl)) (fun _ _ _ h => h) (Or.inl ⟨by rfl, ?hy132⟩) hHeld ?ha132 ?hh132
    case hy132 => (intro w' hS; obtain ⟨hS0, hS3, hS4, hSb⟩ := hS; go_simp; try with_reducible rfl)
    case ha132 => (simp only [Act.put, List.setIfInBounds_toArray, List.set_cons_zero, List.set_cons_succ, i64_w, i32_w]; rfl)
    refine one_ (i := 18) (N := (some 28)) #[true, true, true, true, true, true, true, true, true, true, true, true, true, true, true, true, true, true, true, false, true, true, false, false, false, false, false] rfl rfl (one_of HT_.out (by kernel_rfl)) (by decide) (fun K hK => ?_)
    refine goes_ Tryz.func59 (by kernel_rfl) rfl #[.bool b3] (by rfl) rfl rfl (by (try simp only [List.map_toArray, List.map_cons, List.map_nil]); first | done | rfl) ?_
    refine (truth_any _ _).mono ?_
    rintro e w4 ⟨rfl, rfl⟩
    refine ⟨_, rfl, ?_⟩
    refine hK.out _ _ (hHeld) (fun hHeld => ?_)
    clear hK K
    refine norm_ (a' := ?aa133) ?ha133 ?hh133
    case ha133 => (show Act.put _ (some 28) _ = _; simp only [Act.put, List.setIfInBounds_toArray, List.set_cons_zero, List.set_cons_succ, i64_w, i32_w]; rfl)
    refine pure_ (i := 19) (N := (some 29)) (v := ?vv134) (a' := ?aa134) #[true, true, true, true, true, true, true, true, true, true, true, true, true, true, true, true, true, true, true, true, true, true, false, false, false, false, false] rfl rfl (any_of HT_.out (by kernel_rfl)) (fun _ _ _ h => h) (Or.inl ⟨by rfl, ?hy134⟩) ?ha134 ?hh134
    case hy134 => (intro w'; go_simp; try with_reducible rfl)
    case ha134 => (simp only [Act.put, List.setIfInBounds_toArray, List.set_cons_zero, List.set_cons_succ, i64_w, i32_w]; rfl)
    refine one_ (i := 22) (N := (some 32)) #[true, true, true, true, true, true, true, true, true, true, true, true, true, true, true, true, true, true, true, true, true, true, true, false, false, false, false] rfl rfl (one_of HT_.out (by kernel_rfl)) (by decide) (fun K hK => ?_)
    refine goes_ Tryz.func59 (by kernel_rfl) rfl #[.bool b4] (by rfl) rfl rfl (by (try simp only [List.map_toArray, List.map_cons, List.map_nil]); first | done | rfl) ?_
    refine (truth_any _ _).mono ?_
    rintro e w5 ⟨rfl, rfl⟩
    refine ⟨_, rfl, ?_⟩
    refine hK.out _ _ (hHeld) (fun hHeld => ?_)
    clear hK K
    refine norm_ (a' := ?aa135) ?ha135 ?hh135
    case ha135 => (show Act.put _ (some 32) _ = _; simp only [Act.put, List.setIfInBounds_toArray, List.set_cons_zero, List.set_cons_succ, i64_w, i32_w]; rfl)
    refine pure_ (i := 23) (N := (some 33)) (v := ?vv136) (a' := ?aa136) #[true, true, true, true, true, true, true, true, true, true, true, true, true, true, true, true, true, true, true, true, true, true, true, true, false, false, false] rfl rfl (any_of HT_.out (by kernel_rfl)) (fun _ _ _ h => h) (Or.inl ⟨by rfl, ?hy136⟩) ?ha136 ?hh136
    case hy136 => (intro w'; go_simp; try with_reducible rfl)
    case ha136 => (simp only [Act.put, List.setIfInBounds_toArray, List.set_cons_zero, List.set_cons_succ, i64_w, i32_w]; rfl)
    refine pure_ (i := 24) (N := (some 34)) (v := ?vv137) (a' := ?aa137) #[true, true, true, true, true, true, true, true, true, true, true, true, true, true, true, true, true, true, true, true, true, true, true, true, true, false, false] rfl rfl (any_of HT_.out (by kernel_rfl)) (fun _ _ _ h => h) (Or.inl ⟨by rfl, ?hy137⟩) ?ha137 ?hh137
    case hy137 => (intro w'; go_simp; try with_reducible rfl)
    case ha137 => (simp only [Act.put, List.setIfInBounds_toArray, List.set_cons_zero, List.set_cons_succ, i64_w, i32_w]; rfl)
    refine pure_ (i := 25) (N := (some 35)) (v := ?vv138) (a' := ?aa138) #[true, true, true, true, true, true, true, true, true, true, true, true, true, true, true, true, true, true, true, true, true, true, true, true, true, true, false] rfl rfl (any_of HT_.out (by kernel_rfl)) (fun _ _ _ h => h) (Or.inl ⟨by rfl, ?hy138⟩) ?ha138 ?hh138
    case hy138 => (intro w'; go_simp; try with_reducible rfl)
    case ha138 => (simp only [Act.put, List.setIfInBounds_toArray, List.set_cons_zero, List.set_cons_succ, i64_w, i32_w]; rfl)
    refine pure_ (i := 26) (N := (some 2)) (v := ?vv139) (a' := ?aa139) #[true, true, true, true, true, true, true, true, true, true, true, true, true, true, true, true, true, true, true, true, true, true, true, true, true, true, true] rfl rfl (any_of HT_.out (by kernel_rfl)) (fun _ _ _ h => h) (Or.inl ⟨by rfl, ?hy139⟩) ?ha139 ?hh139
    case hy139 => (intro w'; go_simp; try with_reducible rfl)
    case ha139 => (simp only [Act.put, List.setIfInBounds_toArray, List.set_cons_zero, List.set_cons_succ, i64_w, i32_w]; rfl)
    refine done_ (done_of HT_.out (by kernel_rfl)) ?_
    go_wp2
    go_ret
    have hSb := hHeld.2.2.2.1
    refine ⟨?_, below_then HB.out HB.out.size hSb⟩
    rw [HM.out, HN.out, HA.out]
    have hw := may_sum l1 l2 b3 b4 HL.out
    show Ending.returned (Value.bool (decide (wrap64 (wrap64 ((l1.length : Int) + (l2.length : Int) + truthV b3) + truthV b4) ≤ 8))) = _
    rw [hw]
    simp [HE.out]
end Go.Proofs.Tok
set_option linter.unusedVariables false
set_option linter.unusedSimpArgs false
namespace Go.Proofs.Tok
open Go.RowKit Go.Lib Go.Proofs.YtolfpgccebdlpaaGreatDoorW.PrintWords Go.Proofs.YtolfpgccebdlpaaGreatDoorW.PrintLast Go.Proofs.YtolfpgccebdlpaaGreatDoorW.PrintMore
/-- a part: tag, ids, classes, link, visited -/
abbrev Smp := ByteArray × List ByteArray × List ByteArray × Bool × Bool
def kSmp : Kd Smp := Kd.pair Kd.string (Kd.pair (Kd.slice 9 Kd.string) (Kd.pair (Kd.slice 9 Kd.string) (Kd.pair Kd.bool Kd.bool)))
def zSmp : Smp := (⟨#[]⟩, [], [], false, false)
theorem kSmp_open {w : World} {x : Smp} {cs : List Value} (h : kSmp.K w x cs) : ∃ A1 c1 A2 c2, cs = [.string x.1, .slice A1 x.2.1.length c1, .slice A2 x.2.2.1.length c2, .bool x.2.2.2.1, .bool x.2.2.2.2] ∧ x.2.1.length ≤ c1 ∧ Kd.string.C w A1 x.2.1.length x.2.1 ∧ x.2.2.1.length ≤ c2 ∧ Kd.string.C w A2 x.2.2.1.length x.2.2.1 := by
  obtain ⟨_, _, rfl, rfl, ⟨_, _, rfl, ⟨A1, c1, rfl, l1, g1⟩, ⟨_, _, rfl, ⟨A2, c2, rfl, l2, g2⟩, ⟨_, _, rfl, rfl, rfl⟩⟩⟩⟩ := h
  exact ⟨A1, c1, A2, c2, rfl, l1, g1, l2, g2⟩
theorem at_Smp {w : World} {A : Option Addr} {n : Nat} {xs : List Smp} (h : Kd.C kSmp w A n xs) (k : Nat) (hk : k < n) (hx : k < xs.length) : ∃ ad A1 c1 A2 c2, A = some ad ∧ w.cell? (ad.add (k * 5)) = some (.string xs[k].1) ∧ w.cell? ⟨(ad.add (k * 5)).block, (ad.add (k * 5)).off + 1, none⟩ = some (.slice A1 xs[k].2.1.length c1) ∧ w.cell? ⟨(ad.add (k * 5)).block, (ad.add (k * 5)).off + 2, none⟩ = some (.slice A2 xs[k].2.2.1.length c2) ∧ w.cell? ⟨(ad.add (k * 5)).block, (ad.add (k * 5)).off + 3, none⟩ = some (.bool xs[k].2.2.2.1) ∧ w.cell? ⟨(ad.add (k * 5)).block, (ad.add (k * 5)).off + 4, none⟩ = some (.bool xs[k].2.2.2.2) ∧ xs[k].2.1.length ≤ c1 ∧ Kd.string.C w A1 xs[k].2.1.length xs[k].2.1 ∧ xs[k].2.2.1.length ≤ c2 ∧ Kd.string.C w A2 xs[k].2.2.1.length xs[k].2.2.1 := by
  obtain ⟨ad, c, e, _, hK, hc0⟩ := Kd.C_get h zSmp (k : Int) (by omega) (by omega)
  have hg : xs.getD (k : Int).toNat zSmp = xs[k] := by rw [Int.toNat_natCast, List.getD, List.getElem?_eq_getElem hx]; rfl
  rw [hg] at hK
  have hc : ∀ j u, c[j]? = some u → w.cell? (ad.add (k * 5 + j)) = some u := hc0
  obtain ⟨A1, c1, A2, c2, rfl, l1, g1, l2, g2⟩ := kSmp_open hK
  exact ⟨ad, A1, c1, A2, c2, e, hc 0 _ rfl, by rw [← add_field _ _ 1 (by omega)]; exact hc 1 _ rfl, by rw [← add_field _ _ 2 (by omega)]; exact hc 2 _ rfl, by rw [← add_field _ _ 3 (by omega)]; exact hc 3 _ rfl, by rw [← add_field _ _ 4 (by omega)]; exact hc 4 _ rfl, l1, g1, l2, g2⟩
def mayX (x : Smp) : Bool := mayV x.1 x.2.1 x.2.2.1 x.2.2.2.1 x.2.2.2.2
def fitX (x : Smp) : Prop := (x.2.1.length + x.2.2.1.length) * 16 ≤ 140737488355328 ∧ x.1.size < 4294967281 ∧ ∀ s ∈ x.2.1 ++ x.2.2.1, s.size < 4294967281
set_option maxHeartbeats 4000000 in
set_option maxRecDepth 400000 in
theorem mayp_any (x : Smp) (hx : fitX x) (A1 : Option Addr) (c1 : Nat) (A2 : Option Addr) (c2 : Nat) (w : World) (C1 : Kd.C Kd.string w A1 x.2.1.length x.2.1) (C2 : Kd.C Kd.string w A2 x.2.2.1.length x.2.2.1) :
    Calls Tryz.prog 51 #[.agg #[.string x.1, .slice A1 x.2.1.length c1, .slice A2 x.2.2.1.length c2, .bool x.2.2.2.1, .bool x.2.2.2.2]] w fun e w' => e = .returned (.bool (!mayX x)) ∧ Below w.heap.size w w' := by
  obtain ⟨t, l1, l2, b3, b4⟩ := x
  obtain ⟨hl, ht, hs⟩ := hx
  simp only at C1 C2 hl ht hs
  have hm := fun W hW => may_any t A1 c1 l1 A2 c2 l2 b3 b4 W (Kd.C_below C1 hW) (Kd.C_below C2 hW) hl ht hs
  have hX : mayX (t, l1, l2, b3, b4) = mayV t l1 l2 b3 b4 := rfl
  rw [hX]
  clear hX hs C1 C2 hl
  generalize mayV t l1 l2 b3 b4 = r at hm ⊢
  have hu44 := Tryz.underlying80
  have HM := Aside0.mk hm
  clear hm
  go_enter Tryz.func51, Tryz.ntmps51
  go_wp2_with (first | (go_at_call 52; refine (HM.out _ (by repeat (first | exact Below.refl _ _ | apply below_alloc))).mono ?_; rintro e w' ⟨rfl, hB⟩))
  go_ret
  exact ⟨rfl, below_then (below_alloc (Below.refl _ _) _) (Nat.le_trans (Nat.le_succ _) (Nat.le_of_eq (alloc_size _ _).symm)) hB⟩
set_option maxHeartbeats 4000000 in
set_option maxRecDepth 400000 in
theorem index_smps (xs : List Smp) (A : Option Addr) (c : Nat) (w : World) (C : Kd.C kSmp w A xs.length xs) (hl : xs.length ≤ 1000) (hs : ∀ x ∈ xs, fitX x) :
    Calls Tryz.prog 92 #[.slice A xs.length c, .func (.func 51) #[] #[]] w fun e w' => Below w.heap.size w w' ∧ ∃ i : Int, e = .returned (.int .i64 i) ∧ decide (0 ≤ i) = xs.any fun x => !mayX x := by
  have C0 := Aside0.mk C
  have HS := Aside0.mk hs
  clear C hs
  have hu44 := Tryz.underlying80
  go_enter Tryz.func92, Tryz.ntmps92
  go_wp2
  go_loopw [5, 8, 9, 10, 11, 12, 13, 14, 15, 16, 18] (fun _ i _ _ _ _ _ _ _ _ _ wr => ∃ k : Nat, k ≤ xs.length ∧ i = .int .i64 k ∧ Aside0 (((xs.take k).any fun x => !mayX x) = false) ∧ Aside0 (Below w.heap.size w wr)) (fun _ i _ _ _ _ _ _ _ _ _ _ => xs.length - (RowKit.intOf i).toNat)
  case atStart => exact ⟨0, Nat.zero_le _, rfl, ⟨rfl⟩, ⟨Below.refl _ _⟩⟩
  case round =>
    obtain ⟨k, hk, rfl, N1, B1⟩ := hrel
    by_cases hlt : k < xs.length
    · have g1 : decide ((k : Int) < (xs.length : Int)) = true := decide_eq_true (by omega)
      obtain ⟨ad, A1, c1, A2, c2, e, h0, h1, h2, h3, h4, q1, C1, q2, C2⟩ := at_Smp C0.out k hlt hlt
      subst e
      have hB := fun (p : Addr) (v : Value) (h : w.cell? p = some v) => (B1.out.cell (World.block_lt_of_cell? _ _ h)).trans h
      have k0 := hB _ _ h0
      have k1 := hB _ _ h1
      have k2 := hB _ _ h2
      have k3 := hB _ _ h3
      have k4 := hB _ _ h4
      have hx := fun W hW => mayp_any xs[k] (HS.out _ (List.getElem_mem hlt)) A1 c1 A2 c2 W (Kd.C_below C1 hW) (Kd.C_below C2 hW)
      have T1 : Aside0 (((xs.take (k + 1)).any fun x => !mayX x) = (((xs.take k).any fun x => !mayX x) || !mayX xs[k])) := ⟨by rw [List.take_succ_eq_append_getElem hlt, List.any_append]; simp⟩
      have T2 : Aside0 (mayX xs[k] = false → (xs.any fun x => !mayX x) = true) := ⟨fun h => List.any_eq_true.2 ⟨xs[k], List.getElem_mem hlt, by rw [h]; rfl⟩⟩
      clear h0 h1 h2 h3 h4 hB q1 q2 C1 C2
      generalize xs[k] = x at hx k0 k1 k2 k3 k4 T1 T2
      obtain ⟨b, hb⟩ : ∃ b, mayX x = b := ⟨_, rfl⟩
      have HN := Aside0.mk hb
      rw [hb] at hx
      have HX := Aside0.mk hx
      clear hb hx
      cases b with
      | false =>
        go_wp2_with (first | (go_at_call 51; refine (HX.out _ B1.out).mono ?_; rintro e w' ⟨rfl, hB⟩))
        go_ret
        exact ⟨below_then B1.out B1.out.size hB, _, rfl, by rw [T2.out HN.out]; simp⟩
      | true =>
        go_wp2_with (first | (go_at_call 51; refine (HX.out _ B1.out).mono ?_; rintro e w' ⟨rfl, hB⟩))
        exact ⟨⟨k + 1, by omega, by go_num, ⟨by rw [T1.out, N1.out, HN.out]; rfl⟩, ⟨below_then B1.out B1.out.size hB⟩⟩, by simp [RowKit.intOf]; omega⟩
    · obtain rfl : k = xs.length := by omega
      have g1 : decide ((xs.length : Int) < (xs.length : Int)) = false := decide_eq_false (by omega)
      have hN := N1.out
      rw [List.take_length] at hN
      have N2 := Aside0.mk hN
      clear hN N1
      go_wp2
      go_ret
      exact ⟨B1.out, _, rfl, by rw [N2.out]; rfl⟩
set_option maxHeartbeats 2000000 in
set_option maxRecDepth 400000 in
theorem contains_smps (xs : List Smp) (A : Option Addr) (c : Nat) (w : World) (C : Kd.C kSmp w A xs.length xs) (hl : xs.length ≤ 1000) (hs : ∀ x ∈ xs, fitX x) :
    Calls Tryz.prog 50 #[.slice A xs.length c, .func (.func 51) #[] #[]] w fun e w' => e = .returned (.bool (xs.any fun x => !mayX x)) ∧ Below w.heap.size w w' := by
  have hi := index_smps xs A c w C hl hs
  clear C hs
  generalize (xs.any fun x => !mayX x) = r at hi ⊢
  go_enter Tryz.func50, Tryz.ntmps50
  go_wp2_with (first | (go_at_call 92; refine hi.mono ?_; rintro e w' ⟨hB, i, rfl, hd⟩))
  go_ret
  exact ⟨by rw [← hd]; rfl, hB⟩
/-- may a selector be: its parts, and how many words on closeness -/
def mayS (xs : List Smp) (n1 : Nat) : Bool := !(xs.length == 0) && (decide (xs.length ≤ 8) && (decide (n1 + 1 = xs.length) && !(xs.any fun x => !mayX x)))
set_option maxHeartbeats 4000000 in
set_option maxRecDepth 400000 in
theorem May_any (xs : List Smp) (A : Option Addr) (c : Nat) (A1 : Option Addr) (n1 c1 : Nat) (w : World) (C : Kd.C kSmp w A xs.length xs) (hl : xs.length ≤ 140737488355328) (hn1 : n1 ≤ 9223372036854775807) (hs : ∀ x ∈ xs, fitX x) :
    Calls Tryz.prog 17 #[.agg #[.slice A xs.length c, .slice A1 n1 c1]] w fun e w' => e = .returned (.bool (mayS xs n1)) ∧ Below w.heap.size w w' := by
  have hu := Tryz.underlying25
  have HC := Aside0.mk (fun (h8 : xs.length ≤ 8) W (hW : Below w.heap.size w W) => contains_smps xs A c W (Kd.C_below C hW) (by omega) hs)
  clear C hs
  obtain ⟨n, hn⟩ : ∃ n, xs.length = n := ⟨_, rfl⟩
  obtain ⟨r, hr⟩ : ∃ r, (xs.any fun x => !mayX x) = r := ⟨_, rfl⟩
  have HM : Aside0 (mayS xs n1 = (!(n == 0) && (decide (n ≤ 8) && (decide (n1 + 1 = n) && !r)))) := ⟨by unfold mayS; rw [hn, hr]⟩
  rw [hn] at HC hl ⊢
  rw [hr] at HC
  clear hn hr
  have fin : ∀ {W : World}, Below (w.alloc (.cells #[.slice A n c, .slice A1 n1 c1] 25)).heap.size (w.alloc (.cells #[.slice A n c, .slice A1 n1 c1] 25)) W → Below w.heap.size w W := fun hB => below_then (below_alloc (Below.refl _ _) _) (Nat.le_trans (Nat.le_succ _) (Nat.le_of_eq (alloc_size _ _).symm)) hB
  by_cases z0 : n = 0
  · subst z0
    go_enter Tryz.func17, Tryz.ntmps17
    go_wp2
    go_ret
    exact ⟨by rw [HM.out]; rfl, below_alloc (Below.refl _ _) _⟩
  · have e0 : (((n : Nat) : Int) == 0) = false := beq_eq_false_iff_ne.2 (by omega)
    have f0 : (n == 0) = false := beq_eq_false_iff_ne.2 z0
    by_cases z8 : n ≤ 8
    · have e8 : decide ((8 : Int) < (n : Int)) = false := decide_eq_false (by omega)
      by_cases z1 : n1 + 1 = n
      · have e1 : (((n1 : Nat) : Int) == wrap64 ((n : Int) - 1)) = true := beq_iff_eq.2 (by unfold wrap64; omega)
        go_enter Tryz.func17, Tryz.ntmps17
        go_wp2_with (first | (go_at_call 50; refine (HC.out z8 _ (by repeat (first | exact Below.refl _ _ | apply below_alloc | apply below_drew1 | apply pw_below_drewN))).mono ?_; rintro e w' ⟨rfl, hB⟩))
        go_ret
        exact ⟨by rw [HM.out, f0, decide_eq_true z8, decide_eq_true z1]; rfl, fin hB⟩
      · have e1 : (((n1 : Nat) : Int) == wrap64 ((n : Int) - 1)) = false := beq_eq_false_iff_ne.2 (by unfold wrap64; omega)
        go_enter Tryz.func17, Tryz.ntmps17
        go_wp2
        go_ret
        exact ⟨by rw [HM.out, f0, decide_eq_true z8, decide_eq_false z1]; rfl, below_alloc (Below.refl _ _) _⟩
    · have e8 : decide ((8 : Int) < (n : Int)) = true := decide_eq_true (by omega)
      go_enter Tryz.func17, Tryz.ntmps17
      go_wp2
      go_ret
      exact ⟨by rw [HM.out, f0, decide_eq_false z8]; rfl, below_alloc (Below.refl _ _) _⟩
end Go.Proofs.Tok
set_option linter.unusedVariables false
set_option linter.unusedSimpArgs false
namespace Go.Proofs.Scn
open Go.RowKit Go.Lib Go.Proofs.YtolfpgccebdlpaaGreatDoorW.PrintWords
/-! ### Strip -/
def stripF : Nat → List UInt8 → List UInt8
  | 0, _ => []
  | k + 1, s => if (Lib.cut s [47, 42]).2.2 = true then (Lib.cut s [47, 42]).1 ++ 32 :: stripF k (Lib.cut (Lib.cut s [47, 42]).2.1 [42, 47]).2.1 else (Lib.cut s [47, 42]).1
def stripV (s : ByteArray) : ByteArray := ⟨(stripF (s.size + 1) s.data.toList).toArray⟩
theorem cut_yes {s sep : List UInt8} (h : (Lib.cut s sep).2.2 = true) : (Lib.cut s sep).1.length + sep.length + (Lib.cut s sep).2.1.length = s.length := by
  unfold Lib.cut at h ⊢
  by_cases c : 0 ≤ Lib.index s sep
  · rw [if_pos c]
    have := Lib.index_room s sep c
    simp only [List.length_take, List.length_drop]
    omega
  · rw [if_neg c] at h
    cases h
theorem cut_no {s sep : List UInt8} (h : (Lib.cut s sep).2.2 = false) : (Lib.cut s sep).1 = s := by
  unfold Lib.cut at h ⊢
  by_cases c : 0 ≤ Lib.index s sep
  · rw [if_pos c] at h
    cases h
  · rw [if_neg c]
theorem cut_rest_le (s sep : List UInt8) : (Lib.cut s sep).2.1.length ≤ s.length := by
  unfold Lib.cut
  split
  · simp
  · simp
/-- the package variable that strings.Index reads holds a number -/
def Mx (w : World) : Prop := ∃ m, w.cell? ⟨0, 0, none⟩ = some (.int .i64 m)
theorem Mx.below {w w' : World} (h : Mx w) (hb : Below w.heap.size w w') : Mx w' := by
  obtain ⟨m, hm⟩ := h
  exact ⟨m, (hb.cell (p := ⟨0, 0, none⟩) (World.block_lt_of_cell? _ _ hm)).trans hm⟩
theorem Mx.draws {w : World} (h : Mx w) (n : Nat) : Mx (w.drewN n) := h
theorem cut_at (s : List UInt8) (sep : ByteArray) (w : World) (hs : s.length < 4294967281) (hm : Mx w) (a b : List UInt8) (is : Bool) (h : Lib.cut s sep.data.toList = (a, b, is)) :
    Calls Tryz.prog 102 #[.string ⟨s.toArray⟩, .string sep] w fun e w' => e = .returned (.tuple #[.string ⟨a.toArray⟩, .string ⟨b.toArray⟩, .bool is]) ∧ ∃ n, w' = w.drewN n := by
  obtain ⟨m, hm⟩ := hm
  have c := Tryz.strings_Cut ⟨s.toArray⟩ sep m w (by simpa [Lib.size_mk] using hs) hm
  rw [show (⟨s.toArray⟩ : ByteArray).data.toList = s by simp, h] at c
  exact c
theorem strip_no {k : Nat} {s : List UInt8} (h : (Lib.cut s [47, 42]).2.2 = false) : stripF (k + 1) s = s := by
  rw [stripF, if_neg (by rw [h]; decide), cut_no h]
theorem strip_yes {k : Nat} {s : List UInt8} (h : (Lib.cut s [47, 42]).2.2 = true) : stripF (k + 1) s = (Lib.cut s [47, 42]).1 ++ 32 :: stripF k (Lib.cut (Lib.cut s [47, 42]).2.1 [42, 47]).2.1 := by
  rw [stripF, if_pos h]
def StAt (s : ByteArray) (w wr : World) (rest acc : List UInt8) (fuel : Nat) : Prop := Lib.IsBuilder 99 5 w.heap.size w.heap.size (Lib.byteCells acc) wr ∧ Below w.heap.size w wr ∧ Mx wr ∧ acc ++ stripF fuel rest = stripF (s.size + 1) s.data.toList ∧ rest.length < fuel ∧ acc.length + rest.length ≤ s.size
set_option maxHeartbeats 4000000 in
set_option maxRecDepth 100000 in
theorem strip_any (s : ByteArray) (w : World) (hs : s.size < 4294967281) (hm : Mx w) :
    Calls Tryz.prog 65 #[.string s] w fun e w' => e = .returned (.string (stripV s)) ∧ Below w.heap.size w w' := by
  have hBw : w.heap.size < (w.alloc (.cells #[.pointer none, .slice none 0 0] 99)).heap.size := by simp
  have h0 : Aside (StAt s w (w.alloc (.cells #[.pointer none, .slice none 0 0] 99)) s.data.toList [] (s.size + 1)) :=
    ⟨Lib.fresh_isBuilder _ _ w, (Below.refl _ w).alloc (Nat.le_refl _) _, hm.below ((Below.refl _ w).alloc (Nat.le_refl _) _), rfl, by rw [← Lib.size_eq]; omega, by rw [← Lib.size_eq]; simp⟩
  have HM : Aside (Mx w) := hm
  clear hm hBw
  go_enter Tryz.func65, Tryz.ntmps65
  go_wp2
  go_loopw [0] (fun v wr => ∃ (rest acc : List UInt8) (fuel : Nat), v = .string ⟨rest.toArray⟩ ∧ Aside (StAt s w wr rest acc fuel)) (fun v _ => match v with | .string x => x.size | _ => 0)
  case atStart => exact ⟨s.data.toList, [], s.size + 1, rfl, h0.out⟩
  case round =>
    clear h0
    obtain ⟨rest, acc, fuel, rfl, A1⟩ := hrel
    obtain ⟨fu, rfl⟩ : ∃ fu, fuel = fu + 1 := ⟨fuel - 1, by have := A1.out.2.2.2.2.1; omega⟩
    have hrl : rest.length ≤ s.size := by have := A1.out.2.2.2.2.2; omega
    obtain ⟨a, b, is, hc⟩ : ∃ a b is, Lib.cut rest [47, 42] = (a, b, is) := ⟨_, _, _, rfl⟩
    have HC : Aside (Lib.cut rest [47, 42] = (a, b, is)) := hc
    clear hc
    cases is
    · go_wp2_with fail
      refine (cut_at rest ⟨#[47, 42]⟩ wr (by omega) A1.out.2.2.1 a b false HC.out).mono ?_
      rintro e w1 ⟨rfl, n1, rfl⟩
      have ea : a = rest := by have := cut_no (s := rest) (sep := [47, 42]) (by rw [HC.out]); rw [HC.out] at this; exact this
      subst ea
      have HI : Aside (Lib.IsBuilder 99 5 w.heap.size w.heap.size (Lib.byteCells acc) (wr.drewN n1) ∧ Below w.heap.size w (wr.drewN n1)) := ⟨A1.out.1, ShX.below_draws A1.out.2.1 n1⟩
      have hal : acc.length + a.length ≤ s.size := A1.out.2.2.2.2.2
      have HE : Aside (acc ++ a = stripF (s.size + 1) s.data.toList) := by rw [← A1.out.2.2.2.1, strip_no (by rw [HC.out])]; exact rfl
      clear HC A1
      go_wp2_with fail
      refine (Tryz.Builder_WriteString w.heap.size w.heap.size _ ⟨a.toArray⟩ _ HI.out.1 (by rw [Lib.byteCells_length]; simp only [Lib.size_mk]; omega) HI.out.2.size).mono ?_
      rintro e w2 ⟨rfl, hb2, hw2⟩
      have HI2 : Aside (Lib.IsBuilder 99 5 w.heap.size w.heap.size (Lib.byteCells (acc ++ a)) w2 ∧ Below w.heap.size w w2) := ⟨(by rw [Lib.byteCells_append]; exact Or.inr hb2), HI.out.2.trans hw2⟩
      clear HI hb2 hw2
      go_wp2_with fail
      refine (Tryz.Builder_String_any w.heap.size w.heap.size _ _ HI2.out.1 HI2.out.2.size).mono ?_
      rintro e w3 ⟨rfl, hw3⟩
      have HB3 : Aside (Below w.heap.size w w3) := HI2.out.2.trans hw3
      clear hw3
      go_wp2
      go_ret
      exact ⟨by show _ = Ending.returned (Value.string ⟨(stripF (s.size + 1) s.data.toList).toArray⟩); rw [← HE.out]; rfl, HB3.out⟩
    · have hlen := cut_yes (s := rest) (sep := [47, 42]) (by rw [HC.out])
      rw [HC.out] at hlen
      simp only [List.length_cons, List.length_nil] at hlen
      obtain ⟨a2, b2, is2, hc2⟩ : ∃ a2 b2 is2, Lib.cut b [42, 47] = (a2, b2, is2) := ⟨_, _, _, rfl⟩
      have HC2 : Aside (Lib.cut b [42, 47] = (a2, b2, is2)) := hc2
      have hb2l : b2.length ≤ b.length := by have := cut_rest_le b [42, 47]; rw [hc2] at this; exact this
      clear hc2
      have hal := A1.out.2.2.2.2.2
      have hfu := A1.out.2.2.2.2.1
      have he0 : (acc ++ (a ++ [32])) ++ stripF fu b2 = stripF (s.size + 1) s.data.toList := by
        rw [← A1.out.2.2.2.1, strip_yes (by rw [HC.out]), HC.out, HC2.out]
        simp
      have HE : Aside ((acc ++ (a ++ [32])) ++ stripF fu b2 = stripF (s.size + 1) s.data.toList) := he0
      clear he0
      go_wp2_with fail
      refine (cut_at rest ⟨#[47, 42]⟩ wr (by omega) A1.out.2.2.1 a b true HC.out).mono ?_
      rintro e w1 ⟨rfl, n1, rfl⟩
      have HI : Aside (Lib.IsBuilder 99 5 w.heap.size w.heap.size (Lib.byteCells acc) (wr.drewN n1) ∧ Below w.heap.size w (wr.drewN n1) ∧ Mx (wr.drewN n1)) := ⟨A1.out.1, ShX.below_draws A1.out.2.1 n1, A1.out.2.2.1⟩
      clear HC A1
      go_wp2_with fail
      refine (Tryz.Builder_WriteString w.heap.size w.heap.size _ ⟨a.toArray⟩ _ HI.out.1 (by rw [Lib.byteCells_length]; simp only [Lib.size_mk]; omega) HI.out.2.1.size).mono ?_
      rintro e w2 ⟨rfl, hb2, hw2⟩
      have HI2 : Aside (Lib.IsBuilder 99 5 w.heap.size w.heap.size (Lib.byteCells (acc ++ a)) w2 ∧ Below w.heap.size w w2) := ⟨(by rw [Lib.byteCells_append]; exact Or.inr hb2), HI.out.2.1.trans hw2⟩
      clear HI hb2 hw2
      go_wp2_with fail
      refine (Tryz.Builder_WriteByte w.heap.size w.heap.size _ 32 _ HI2.out.1 (by rw [Lib.byteCells_length]; simp; omega) HI2.out.2.size).mono ?_
      rintro e w3 ⟨rfl, hb3, hw3⟩
      have HI3 : Aside (Lib.IsBuilder 99 5 w.heap.size w.heap.size (Lib.byteCells (acc ++ (a ++ [32]))) w3 ∧ Below w.heap.size w w3) := ⟨(by rw [← List.append_assoc, Lib.byteCells_append]; exact Or.inr hb3), HI2.out.2.trans hw3⟩
      have HM3 : Aside (Mx w3) := HM.out.below HI3.out.2
      clear HI2 hb3 hw3
      go_wp2_with fail
      refine (cut_at b ⟨#[42, 47]⟩ w3 (by omega) HM3.out a2 b2 is2 HC2.out).mono ?_
      rintro e w4 ⟨rfl, n4, rfl⟩
      go_wp2
      go_roundw
      case rel => exact ⟨b2, acc ++ (a ++ [32]), fu, rfl, HI3.out.1, ShX.below_draws HI3.out.2 n4, HM3.out, HE.out, by omega, by simp; omega⟩
      case measure => simp only [Lib.size_mk]; omega
end Go.Proofs.Scn
set_option linter.unusedVariables false
set_option linter.unusedSimpArgs false
namespace Go.Proofs.Scn
open Go.RowKit Go.Lib Go.Shelf
attribute [local go_sem] Oper.semAt_some
/-! ### words -/
/-- where the first blank stands, or the end -/
def wordEnd (t : List UInt8) : Nat := if Lib.indexAny t [32, 9, 10, 13] < 0 then t.length else (Lib.indexAny t [32, 9, 10, 13]).toNat
def wordsF : Nat → List UInt8 → List (List UInt8)
  | 0, _ => []
  | k + 1, s => if wordEnd (Lib.trimLeftS s [32, 9, 10, 13]) = 0 then [] else (Lib.trimLeftS s [32, 9, 10, 13]).take (wordEnd (Lib.trimLeftS s [32, 9, 10, 13])) :: wordsF k ((Lib.trimLeftS s [32, 9, 10, 13]).drop (wordEnd (Lib.trimLeftS s [32, 9, 10, 13])))
def wordsV (s : ByteArray) : List ByteArray := (wordsF (s.size + 1) s.data.toList).map fun l => ⟨l.toArray⟩
theorem indexAny_le (cs : List UInt8) : ∀ l : List UInt8, Lib.indexAny l cs ≤ (l.length : Int)
  | [] => by simp [Lib.indexAny]
  | b :: l => by
    have ih := indexAny_le cs l
    unfold Lib.indexAny
    split
    · simp; omega
    · split
      · simp; omega
      · simp; omega
theorem wordEnd_le (t : List UInt8) : wordEnd t ≤ t.length := by
  unfold wordEnd
  have := indexAny_le [32, 9, 10, 13] t
  split <;> omega
theorem trimLeft_le (l cs : List UInt8) : (Lib.trimLeftS l cs).length ≤ l.length := (List.dropWhile_sublist _).length_le
def boxLen (B : Nat) (W : World) : Nat := match W.cell? ⟨B, 0, none⟩ with | some (.string s) => s.size | _ => 0
theorem boxLen_eq {B : Nat} {W : World} {t : TypeId} {s : ByteArray} (h : Boxed W B t (.string s)) : boxLen B W = s.size := by unfold boxLen; rw [h.cell]
theorem Boxed.belowW {W W' : World} {B : Nat} {t : TypeId} {v : Value} (h : Boxed W B t v) (hb : Below W.heap.size W W') : Boxed W' B t v := (hb.block B h.lt).trans h
theorem ext_drop (t : List UInt8) (m : Nat) : (⟨t.toArray⟩ : ByteArray).extract m t.length = ⟨(t.drop m).toArray⟩ := by
  rw [Lib.extract_mk, List.take_of_length_le (by simp)]
theorem ext_take (t : List UInt8) (m : Nat) : (⟨t.toArray⟩ : ByteArray).extract 0 m = ⟨(t.take m).toArray⟩ := by
  rw [Lib.extract_mk, List.drop_zero, Nat.sub_zero]
set_option maxRecDepth 100000 in
set_option maxHeartbeats 4000000 in
/-- the iterator: for every loop body that goes on, and keeps the iterator's own variable; J abides new blocks and that variable's turns -/
theorem words_iter (n : Nat) (l Bs : Nat) (J : List ByteArray → World → Prop) (s : ByteArray) (hs : s.size < 4294967281)
    (hJ : ∀ (pre : List ByteArray) (A A' : World), J pre A → Below A.heap.size A A' → J pre A') (hS : ∀ (pre : List ByteArray) (A : World) (v : Value), J pre A → J pre (A.setCell ⟨Bs, 0, none⟩ v))
    (hY : ∀ (pre : List ByteArray) (x : ByteArray × ByteArray) (W : World), J pre W → Boxed W Bs 9 (.string x.1) → x.2.size ≤ s.size → pre.length < s.size → YieldAt Fence.wide (n - 1) Tryz.prog l #[.string x.2] W fun e W' => e = .returned (.bool true) ∧ J (pre ++ [x.2]) W' ∧ Boxed W' Bs 9 (.string x.1))
    (W : World) (hBs : Boxed W Bs 9 (.string s)) (h0 : J [] W) :
    CallsIn Fence.wide n Tryz.prog 124 #[.func (.yield l) #[] #[], .pointer (some ⟨Bs, 0, none⟩)] W fun e W' => (∃ v, e = .returned v) ∧ J (wordsV s) W' := by
  refine callsIn_of_wp Tryz.func124 rfl trivial ?_ rfl
  simp only [Tryz.ntmps124, List.size_toArray, List.length_cons, List.length_nil, Nat.reduceAdd, Nat.reduceSub, Array.replicate_succ, Array.replicate_zero, List.push_toArray, List.append_toArray, List.nil_append, List.cons_append]
  have H0 : Aside (∃ (rest : List UInt8) (pre : List (List UInt8)) (fuel : Nat), Boxed W Bs 9 (.string ⟨rest.toArray⟩) ∧ J (pre.map fun l => ⟨l.toArray⟩) W ∧ pre ++ wordsF fuel rest = wordsF (s.size + 1) s.data.toList ∧ rest.length < fuel ∧ pre.length + rest.length ≤ s.size) :=
    ⟨s.data.toList, [], s.size + 1, hBs, h0, rfl, by rw [← Lib.size_eq]; omega, by rw [← Lib.size_eq]; simp⟩
  have HJ : Aside (∀ (pre : List ByteArray) (A A' : World), J pre A → Below A.heap.size A A' → J pre A') := hJ
  have HS : Aside (∀ (pre : List ByteArray) (A : World) (v : Value), J pre A → J pre (A.setCell ⟨Bs, 0, none⟩ v)) := hS
  have HY : Aside (∀ (pre : List ByteArray) (x : ByteArray × ByteArray) (W : World), J pre W → Boxed W Bs 9 (.string x.1) → x.2.size ≤ s.size → pre.length < s.size → YieldAt Fence.wide (n - 1) Tryz.prog l #[.string x.2] W fun e W' => e = .returned (.bool true) ∧ J (pre ++ [x.2]) W' ∧ Boxed W' Bs 9 (.string x.1)) := hY
  clear hJ hS hY hBs h0
  gi_wp2
  gi_loopw [] (fun wr => Aside (∃ (rest : List UInt8) (pre : List (List UInt8)) (fuel : Nat), Boxed wr Bs 9 (.string ⟨rest.toArray⟩) ∧ J (pre.map fun l => ⟨l.toArray⟩) wr ∧ pre ++ wordsF fuel rest = wordsF (s.size + 1) s.data.toList ∧ rest.length < fuel ∧ pre.length + rest.length ≤ s.size)) (fun wr => boxLen Bs wr)
  case atStart => exact H0
  case round =>
    clear H0
    obtain ⟨rest, pre, fuel, hb, hJp, hE, hf, hr⟩ := hrel
    obtain ⟨fu, rfl⟩ : ∃ fu, fuel = fu + 1 := ⟨fuel - 1, by omega⟩
    obtain ⟨t, ht⟩ : ∃ t, Lib.trimLeftS rest [32, 9, 10, 13] = t := ⟨_, rfl⟩
    obtain ⟨m, hm⟩ : ∃ m, wordEnd t = m := ⟨_, rfl⟩
    have htl := trimLeft_le rest [32, 9, 10, 13]
    have hml := wordEnd_le t
    rw [ht] at htl
    rw [hm] at hml
    have T1 : ∀ w, Calls Tryz.prog 125 #[.string ⟨rest.toArray⟩, .string ⟨#[32, 9, 10, 13]⟩] w fun e w' => e = .returned (.string ⟨t.toArray⟩) ∧ Below w.heap.size w w' := fun w => by
      have c := Any.strings_TrimLeft_laid Tryz.lays161 (by kernel_rfl) ⟨rest.toArray⟩ ⟨#[32, 9, 10, 13]⟩ w (by decide) (ascii_of_all (by decide))
      rw [show (⟨rest.toArray⟩ : ByteArray).data.toList = rest by simp] at c
      rw [show Lib.trimLeftS rest (⟨#[32, 9, 10, 13]⟩ : ByteArray).data.toList = t from ht] at c
      exact c
    have hcell := hb.cell
    have hfro := hb.frozen
    have HB : Aside (Boxed wr Bs 9 (.string ⟨rest.toArray⟩)) := hb
    have HJP : Aside (J (pre.map fun l => ⟨l.toArray⟩) wr) := hJp
    have HE : Aside (pre ++ wordsF (fu + 1) rest = wordsF (s.size + 1) s.data.toList) := hE
    have HT : Aside (Lib.trimLeftS rest [32, 9, 10, 13] = t ∧ wordEnd t = m) := ⟨ht, hm⟩
    clear hb hJp hE ht hm
    gi_wp2_with fail
    refine ⟨trivial, (fun h => absurd h (by decide)), (callsIn_wide.2 (T1 _)).mono ?_⟩
    rintro e w1 ⟨rfl, hb1⟩
    have B1 : Aside (Boxed w1 Bs 9 (.string ⟨rest.toArray⟩) ∧ J (pre.map fun l => ⟨l.toArray⟩) w1) := ⟨Boxed.belowW HB.out hb1, HJ.out _ _ _ HJP.out hb1⟩
    have hcell1 := B1.out.1.cell
    have hfro1 := B1.out.1.frozen
    clear hcell hfro hb1 T1
    gi_wp2_with fail
    have B2 : Aside (Boxed (w1.setCell ⟨Bs, 0, none⟩ (.string ⟨t.toArray⟩)) Bs 9 (.string ⟨t.toArray⟩) ∧ J (pre.map fun l => ⟨l.toArray⟩) (w1.setCell ⟨Bs, 0, none⟩ (.string ⟨t.toArray⟩))) := ⟨Boxed.set _ B1.out.1, HS.out _ _ _ B1.out.2⟩
    clear hcell1 hfro1 B1
    have hmr : m ≤ rest.length := by omega
    have I0 : ∀ w, Calls Tryz.prog 101 #[.string ⟨t.toArray⟩, .string ⟨#[32, 9, 10, 13]⟩] w fun e w' => e = .returned (.int .i64 (Lib.indexAny t [32, 9, 10, 13])) ∧ Below w.heap.size w w' := fun w => by
      have c := ShX.xIndexAny Tryz.lays153 (by kernel_rfl) ⟨t.toArray⟩ ⟨#[32, 9, 10, 13]⟩ w (by simp only [Lib.size_mk]; omega) (by decide) (by decide) (ascii_of_all (by decide))
      rw [show (⟨t.toArray⟩ : ByteArray).data.toList = t by simp] at c
      exact c
    have hia : Lib.indexAny t [32, 9, 10, 13] = -1 ∧ t.length = m ∨ Lib.indexAny t [32, 9, 10, 13] = (m : Int) ∧ m ≤ t.length := by
      have h1 := HT.out.2
      unfold wordEnd at h1
      have h2 := Lib.indexAny_ge [32, 9, 10, 13] t
      split at h1
      · exact .inl ⟨by omega, h1⟩
      · exact .inr ⟨by omega, hml⟩
    rcases hia with ⟨hi1, hlen⟩ | ⟨hi1, hlen⟩
    all_goals
      rw [hi1] at I0
      clear hi1
      refine ⟨trivial, (fun h => absurd h (by decide)), (callsIn_wide.2 (I0 _)).mono ?_⟩
      rintro e w2 ⟨rfl, hb2⟩
      have B3 : Aside (Boxed w2 Bs 9 (.string ⟨t.toArray⟩) ∧ J (pre.map fun l => ⟨l.toArray⟩) w2) := ⟨Boxed.belowW B2.out.1 hb2, HJ.out _ _ _ B2.out.2 hb2⟩
      have hcell3 := B3.out.1.cell
      have hfro3 := B3.out.1.frozen
      clear hb2 I0 B2
      by_cases hm0 : m = 0
      · have hmz : ((m : Int) == 0) = true := by simp [hm0]
        have HE2 : Aside (pre = wordsF (s.size + 1) s.data.toList) := by
          have h := HE.out
          rw [wordsF, HT.out.1, HT.out.2, if_pos hm0, List.append_nil] at h
          exact h
        clear hm0
        gi_wp2
        refine ⟨(fun _ h => (by cases h)), ?_⟩
        gi_wp2
        refine bodyPost_ret (results_none rfl _ _ _) rfl ?_
        exact ⟨⟨_, rfl⟩, by rw [wordsV, ← HE2.out]; exact B3.out.2⟩
      · have hmz : ((m : Int) == 0) = false := by simp [hm0]
        have hmt : (m : Int) ≤ (t.length : Int) := by omega
        obtain ⟨fn, tmps, assign, body, hy, hR⟩ := HY.out (pre.map fun l => ⟨l.toArray⟩) (⟨t.toArray⟩, (⟨t.toArray⟩ : ByteArray).extract 0 m) w2 B3.out.2 B3.out.1 (by simp only [ByteArray.size_extract, Lib.size_mk]; omega) (by rw [List.length_map]; omega)
        dsimp only at hy
        have hmp : 1 ≤ m := by omega
        have HE2 : Aside ((pre ++ [t.take m]) ++ wordsF fu (t.drop m) = wordsF (s.size + 1) s.data.toList) := by
          have h := HE.out
          rw [wordsF, HT.out.1, HT.out.2, if_neg hm0] at h
          rw [List.append_assoc]
          exact h
        clear hm0
        gi_wp2
        refine ⟨(fun h => absurd h (by decide)), hR.mono ?_⟩
        rintro e W3 ⟨rfl, hJ4, hb4⟩
        have B4 : Aside (Boxed W3 Bs 9 (.string ⟨t.toArray⟩) ∧ J ((pre.map fun l => ⟨l.toArray⟩) ++ [(⟨t.toArray⟩ : ByteArray).extract 0 m]) W3) := ⟨hb4, hJ4⟩
        have hcell4 := hb4.cell
        have hfro4 := hb4.frozen
        clear hb4 hJ4 hcell3 hfro3 B3 hy hR
        gi_wp2
        have ev1 := ext_drop t m
        have ev0 : t.length = m → ByteArray.empty = (⟨(t.drop m).toArray⟩ : ByteArray) := fun h => by rw [List.drop_eq_nil_of_le (by omega)]; rfl
        first | rw [ev1] | rw [ev0 hlen]
        have BX := Boxed.set (.string ⟨(t.drop m).toArray⟩) B4.out.1
        refine ⟨⟨t.drop m, pre ++ [t.take m], fu, BX, ?_, HE2.out, by rw [List.length_drop]; omega, by rw [List.length_drop, List.length_append, List.length_singleton]; omega⟩, ?_⟩
        · have h := HS.out _ _ (.string ⟨(t.drop m).toArray⟩) B4.out.2
          rw [ext_take] at h
          simpa using h
        · rw [boxLen_eq BX, boxLen_eq HB.out, Lib.size_mk, Lib.size_mk, List.length_drop]
          omega
end Go.Proofs.Scn
set_option linter.unusedVariables false
set_option linter.unusedSimpArgs false
namespace Go.Proofs.Scn
open Go.RowKit Go.Lib Go.Shelf Go.Proofs.YtolfpgccebdlpaaGreatDoorW.PrintWords
attribute [local go_sem] Oper.semAt_some
theorem words_fn (s : ByteArray) (w : World) :
    Calls Tryz.prog 84 #[.string s] w fun e w' => e = .returned (.func (.func 124) #[] #[.pointer (some ⟨w.heap.size, 0, none⟩)]) ∧ w' = w.alloc (.cells #[.string s] 9) := by
  go_enter Tryz.func84, Tryz.ntmps84
  go_wp2
  go_ret
  exact ⟨rfl, rfl⟩
/-- what the loop's rounds keep and fill: the list's variable, its row; the loop's own record -/
def WJ (n0 : Nat) (w : World) (rec : Loop) (pre : List ByteArray) (W : World) : Prop :=
  (∃ v, Boxed W n0 76 v ∧ W.ownsRow (n0 + 2) 9 1 v pre.length (pre.map Value.string)) ∧ Below n0 w W ∧ W.heap[n0 + 3]? = some (.loop rec) ∧ W.heap[n0 + 2]? = some (.deferred (some []))
theorem WJ.below {n0 : Nat} {w : World} {rec : Loop} {pre : List ByteArray} {A A' : World} (h : WJ n0 w rec pre A) (hb : Below A.heap.size A A') : WJ n0 w rec pre A' := by
  obtain ⟨⟨v, hv, hr⟩, hB, hl, hd⟩ := h
  have hsz : n0 ≤ A.heap.size := Nat.le_of_lt hv.lt
  refine ⟨⟨v, Boxed.belowW hv hb, hr.kept (grown_of_below hb none) ?_⟩, hB.trans (hb.mono hsz), (hb.block _ (Array.getElem?_eq_some_iff.1 hl).1).trans hl, (hb.block _ (Array.getElem?_eq_some_iff.1 hd).1).trans hd⟩
  rcases hr.2 with ⟨rfl, _⟩ | ⟨g, cap, cur, rfl, hg, _⟩
  · exact .inl rfl
  · exact .inr (by simp [Value.ownBlock])
theorem WJ.set {n0 : Nat} {w : World} {rec : Loop} {pre : List ByteArray} {A : World} (h : WJ n0 w rec pre A) (u : Value) : WJ n0 w rec pre (A.setCell ⟨n0 + 1, 0, none⟩ u) := by
  obtain ⟨⟨v, hv, hr⟩, hB, hl, hd⟩ := h
  refine ⟨⟨v, hv.other (by omega) u, hr.kept (grownBy_setCell' A (n0 + 1) u) ?_⟩, hB.setCell (p := ⟨n0 + 1, 0, none⟩) (by simp) u, (Below.heap_setCell _ _ _ _ (by simp)).trans hl, (Below.heap_setCell _ _ _ _ (by simp)).trans hd⟩
  rcases hr.2 with ⟨rfl, _⟩ | ⟨g, cap, cur, rfl, hg, _⟩
  · exact .inl rfl
  · exact .inr (by simp [Value.ownBlock]; omega)
theorem owns_le {W : World} {b b' : Nat} {e size k : Nat} {v : Value} {xs : List Value} (h : W.ownsRow b e size v k xs) (hb : b' ≤ b) : W.ownsRow b' e size v k xs :=
  ⟨h.1, h.2.imp id (fun ⟨g, cap, cur, h1, h2, h3⟩ => ⟨g, cap, cur, h1, Nat.le_trans hb h2, h3⟩)⟩
theorem owns_ne {W : World} {b : Nat} {e size k : Nat} {v : Value} {xs : List Value} (h : W.ownsRow b e size v k xs) {j : Nat} (hj : j < b) : some j ≠ v.ownBlock := by
  rcases h.2 with ⟨rfl, _⟩ | ⟨g, cap, cur, rfl, hg, _⟩
  · simp [Value.ownBlock]
  · simp [Value.ownBlock]; omega
theorem owns_set {W : World} {b : Nat} {e size k : Nat} {v : Value} {xs : List Value} (h : W.ownsRow b e size v k xs) {j : Nat} (hj : j < b) (u : Value) : (W.setCell ⟨j, 0, none⟩ u).ownsRow b e size v k xs :=
  h.kept (grownBy_setCell' W j u) (.inr (owns_ne h hj).symm)
theorem Tryz.infoS : (Tryz.prog.info? 9).map (fun i => (i.zero, i.size, i.bytes)) = some (some (.string ⟨#[]⟩), 1, 16) := by kernel_rfl
/-- an outermost range over a closure, at the wide fence: its record, named -/
theorem range_outer {P : Program} {n : Nat} {g : Operand} {ps : Array Tmp} {assign body : Code} {Q : Exit → Act → World → Prop} {a : Act} {w : World} {gf : Nat} {lb : Array Value}
    (hn : 1 ≤ n) (hg : a.eval g = .func (.func gf) #[] lb) (eg : ∀ args w, (callFunc gf args).run P w = .ok (.enter gf args) w)
    (h : ∀ rec : Loop, rec.state = .ready → rec.pending = none → rec.tmps = a.tmps → rec.params = ps → rec.assign = assign → rec.body = body →
      CallsIn Fence.wide (n - 1) P gf (#[.func (.yield (w.heap.size + 1)) #[] #[]] ++ lb) ((w.alloc (.deferred (some []))).alloc (.loop rec)) (rangePost Fence.wide n P (w.heap.size + 1) Q { a with defers := [{ target := .collected w.heap.size, args := #[] }] ++ a.defers })) :
    (Code.rangeFunc g ps assign body).wpIn Fence.wide n P Q a w := by
  refine wpIn_rangeFunc ?_
  intro fn hfn
  obtain ⟨rec, hrec⟩ : ∃ rec : Loop, rec = { state := .ready, pending := none, fn, tmps := a.tmps, params := ps, assign, body, defers := w.heap.size } := ⟨_, rfl⟩
  have he : (Instr.enterLoop fn a.tmps ps assign body Fence.wide.round).run P w = .ok (w.heap.size + 1, [{ target := .collected w.heap.size, args := #[] }]) ((w.alloc (.deferred (some []))).alloc (.loop rec)) := by
    rw [hrec]
    exact run_enterLoop_outer _ _ _ _ _
  have hh := h rec (by rw [hrec]) (by rw [hrec]) (by rw [hrec]) (by rw [hrec]) (by rw [hrec]) (by rw [hrec])
  obtain ⟨W1, hW1⟩ : ∃ W1, (w.alloc (.deferred (some []))).alloc (.loop rec) = W1 := ⟨_, rfl⟩
  rw [hW1] at he hh
  refine ⟨w.heap.size + 1, [{ target := .collected w.heap.size, args := #[] }], W1, { target := .fn (.func gf) lb, args := #[.func (.yield (w.heap.size + 1)) #[] #[]] }, W1, gf, #[.func (.yield (w.heap.size + 1)) #[] #[]] ++ lb, W1, ?_, ?_, ?_, ?_, ?_, ?_⟩
  · exact he
  · simp only [resolve, hg]
    simp [go_sem]
  · intro _ _
    exact True.intro
  · simp [invoke, go_sem, eg]
  · exact fun _ => hn
  · exact hh
set_option maxRecDepth 100000 in
set_option maxHeartbeats 4000000 in
theorem words_any (s : ByteArray) (w : World) (hs : s.size < 4294967281) :
    Calls Tryz.prog 39 #[.string s] w fun e w' => ∃ v0_ : Value, e = .returned v0_ ∧ Kd.R Kd.string 9 w' w.heap.size (fun _ => True) v0_ (wordsV s) ∧ Below w.heap.size w w' := by
  refine (callsIn_wide (n := 6)).1 ?_
  refine callsIn_of_wp_marks Tryz.func39 rfl trivial ?_ rfl
  simp only [Tryz.ntmps39, List.size_toArray, List.length_cons, List.length_nil, Nat.reduceAdd, Nat.reduceSub, Array.replicate_succ, Array.replicate_zero, List.push_toArray, List.append_toArray, List.nil_append, List.cons_append]
  gi_wp2_with fail
  refine ⟨trivial, (callsIn_wide.2 (words_fn _ _)).mono ?_⟩
  rintro e w' ⟨rfl, rfl⟩
  gi_wp2_with fail
  refine range_outer (by decide) (gf := 124) (lb := #[.pointer (some ⟨w.heap.size + 1, 0, none⟩)]) rfl (enters_of Tryz.func124 (by kernel_rfl) rfl) ?_
  intro rec h1 h2 h3 h4 h5 h6
  have h0 : WJ w.heap.size w rec [] ((((w.alloc (.cells #[.slice none 0 0] 76)).alloc (.cells #[.string s] 9)).alloc (.deferred (some []))).alloc (.loop rec)) := by
    refine ⟨⟨.slice none 0 0, ?_, World.ownsRow_nil _ _ _ _⟩, ?_, ?_, ?_⟩
    · exact (((Boxed.new w 76 (.slice none 0 0)).alloc _).alloc _).alloc _
    · exact (((((Below.refl _ w).alloc (Nat.le_refl _) _).alloc (by simp) _).alloc (by simp; omega) _).alloc (by simp; omega) _)
    · have := World.alloc_heap_new (((w.alloc (.cells #[.slice none 0 0] 76)).alloc (.cells #[.string s] 9)).alloc (.deferred (some []))) (.loop rec)
      simpa only [World.size_alloc] using this
    · have := World.alloc_heap_new ((w.alloc (.cells #[.slice none 0 0] 76)).alloc (.cells #[.string s] 9)) (.deferred (some []))
      refine (Below.heap_alloc _ _ _ (by simp)).trans ?_
      simpa only [World.size_alloc] using this
  have hBs : Boxed ((((w.alloc (.cells #[.slice none 0 0] 76)).alloc (.cells #[.string s] 9)).alloc (.deferred (some []))).alloc (.loop rec)) (w.heap.size + 1) 9 (.string s) := by
    have := Boxed.new (w.alloc (.cells #[.slice none 0 0] 76)) 9 (.string s)
    simp only [World.size_alloc] at this
    exact (this.alloc _).alloc _
  refine (words_iter (6 - 1) _ (w.heap.size + 1) (WJ w.heap.size w rec) s hs (fun pre A A' h hb => h.below hb) (fun pre A v h => h.set v) ?_ _ hBs h0).mono ?_
  · intro pre x W hW hbx hxs hpl
    obtain ⟨⟨v, hv, hr⟩, hB, hl, hd⟩ := hW
    simp only [World.size_alloc]
    refine ⟨rec.fn, _, rec.assign, rec.body, run_yield (r := rec) hl (by rw [h4]; rfl), roundIn_of_wpIn trivial ?_⟩
    rw [h3, h4, h5, h6]
    gi_wp2
    refine ⟨_, run_beginRound hl h1, ?_⟩
    obtain ⟨X, hX⟩ : ∃ X, W.putObj (w.heap.size + 3) (.loop { rec with state := .busy }) = X := ⟨_, rfl⟩
    have hgX : W.grownBy X (some (w.heap.size + 3)) := by rw [← hX]; exact grownBy_putObj' _ _ _
    have hlt : w.heap.size + 3 < W.heap.size := (Array.getElem?_eq_some_iff.1 hl).1
    have hlX : X.heap[w.heap.size + 3]? = some (.loop { rec with state := .busy }) := by rw [← hX]; exact World.putObj_heap_same hlt
    have hdX : X.heap[w.heap.size + 2]? = some (.deferred (some [])) := by rw [← hX]; exact (World.putObj_heap_other (by omega)).trans hd
    have hvX : Boxed X w.heap.size 76 v := hv.kept hgX (by simp)
    have hbX : Boxed X (w.heap.size + 1) 9 (.string x.1) := hbx.kept hgX (by simp)
    have hrX : X.ownsRow (w.heap.size + 2) 9 1 v pre.length (pre.map Value.string) := by rw [← hX]; exact ownsRow_putObj hr _ hl rfl
    have hBX : Below w.heap.size w X := hB.grown hgX hB.size (fun k e => by cases e; omega)
    have hXs : w.heap.size + 3 < X.heap.size := (Array.getElem?_eq_some_iff.1 hlX).1
    have gX : (W.putObj (w.heap.size + 3) (.loop { rec with state := .busy })) = X := hX
    show Code.wpIn _ _ _ _ _ _ (W.putObj (w.heap.size + 3) (.loop { rec with state := .busy }))
    rw [gX]
    have HH : Aside (X.heap[w.heap.size + 3]? = some (.loop { rec with state := .busy }) ∧ X.heap[w.heap.size + 2]? = some (.deferred (some [])) ∧ Boxed X w.heap.size 76 v ∧ Boxed X (w.heap.size + 1) 9 (.string x.1) ∧ X.ownsRow (w.heap.size + 2) 9 1 v pre.length (pre.map Value.string) ∧ Below w.heap.size w X) := ⟨hlX, hdX, hvX, hbX, hrX, hBX⟩
    have hcX := hvX.cell
    have hfX := hvX.frozen
    clear hgX hlt hlX hdX hvX hbX hBX gX hX hv hr hB hl hd hbx h3 h4 h5 h6 hBs h0
    obtain ⟨i0, hi, hz0, hz1, hz2⟩ := info_parts Tryz.infoS
    gi_wp2_with (gi_at_builtin; refine wpListIn_append_own _ rfl _ _ 76 rfl (w.heap.size + 2) 9 i0 (.string ⟨#[]⟩) 1 16 Tryz.underlying76 hi hz0 hz1 hz2 rfl (by decide) _ _ _ rfl (hrX.alloc _) ⟨X.heap.size, 0, none⟩ 1 1 [.string x.2] rfl rfl (cell_one_new _ _ _) (by simp [Value.oneCell']) (by unfold maxLen; omega) (by omega) (by simp; omega) ?_; intro v' w1 hown' hgrow _; obtain ⟨g', cap', rfl⟩ := ownsRow_succ hown'; obtain ⟨hv1, hv2, hr2, hk2, hb2⟩ := HH.out.2.2.1.appended (by decide) (owns_le HH.out.2.2.2.2.1 (by omega)) (by omega) (Nat.le_refl _) (owns_le (b' := w.heap.size) hown' (by omega)) hgrow; have hc1 := hv1.cell; have hf1 := hv1.frozen)
    have hl5 := hk2.same _ _ HH.out.1 rfl
    have hd5 := hk2.same _ _ HH.out.2.1 rfl
    have erec : ({ ({ rec with state := .busy } : Loop) with state := (if (none : Option Code).isNone then .ready else .done), pending := none } : Loop) = rec := by
      cases rec
      simp at h1 h2
      subst h1 h2
      rfl
    have hend := run_endRound (P := Tryz.prog) none hl5
    rw [erec] at hend
    refine ⟨_, _, hend, rfl, ⟨⟨_, hv2.kept (grownBy_putObj' _ _ _) (by simp), ?_⟩, ?_, ?_, ?_⟩, ?_⟩
    · rw [List.length_append, List.map_append]
      exact ownsRow_putObj (owns_set hown' (by omega) _) _ hl5 rfl
    · exact (HH.out.2.2.2.2.2.trans hb2).grown (grownBy_putObj' _ _ _) (HH.out.2.2.2.2.2.trans hb2).size (fun k e => by cases e; omega)
    · exact World.putObj_heap_same (Array.getElem?_eq_some_iff.1 hl5).1
    · exact (World.putObj_heap_other (by omega)).trans hd5
    · exact (((HH.out.2.2.2.1.alloc _).kept hgrow (owns_ne hrX (by omega))).other (by omega) _).kept (grownBy_putObj' _ _ _) (by simp)
  · rintro e W' ⟨⟨v, rfl⟩, ⟨u, hu, hr⟩, hB, hl, hd⟩
    simp only [World.size_alloc]
    refine ⟨none, _, by have := run_endLoop (P := Tryz.prog) hl (by rw [h1]; simp); rw [h2] at this; exact this, ?_⟩
    obtain ⟨Y, hY⟩ : ∃ Y, W'.putObj (w.heap.size + 3) (.loop { rec with state := .exhausted, pending := none }) = Y := ⟨_, rfl⟩
    have hgY : W'.grownBy Y (some (w.heap.size + 3)) := by rw [← hY]; exact grownBy_putObj' _ _ _
    have huY : Boxed Y w.heap.size 76 u := hu.kept hgY (by simp)
    have hrY : Y.ownsRow (w.heap.size + 2) 9 1 u (wordsV s).length ((wordsV s).map Value.string) := by rw [← hY]; exact ownsRow_putObj hr _ hl rfl
    have hBY : Below w.heap.size w Y := hB.grown hgY hB.size (fun k e => by cases e; omega)
    have hdY : Y.heap[w.heap.size + 2]? = some (.deferred (some [])) := by rw [← hY]; exact (World.putObj_heap_other (by omega)).trans hd
    have hH : Aside (Y.ownsRow (w.heap.size + 2) 9 1 u (wordsV s).length ((wordsV s).map Value.string) ∧ Below w.heap.size w Y) := ⟨hrY, hBY⟩
    have hcY := huY.cell
    have hfY := huY.frozen
    show Exit.inBlock 0 _ Exit.normal _ (W'.putObj (w.heap.size + 3) (.loop { rec with state := .exhausted, pending := none }))
    rw [hY]
    clear hgY hrY hBY hY hu hr hB hl hd h3 h4 h5 h6 hBs h0
    gi_wp2
    refine ⟨by simp, .inl ⟨_, _, rfl, run_takeDeferred hdY, ?_⟩⟩
    have hP := ownsRow_putObj (o' := .deferred none) hH.out.1 hdY rfl
    refine ⟨_, results_tmp rfl _ _ _, ?_⟩
    refine ⟨u, rfl, ⟨fun _ _ => True.intro, _, owns_le hP (by omega), Kd.reps_scalar _⟩, hH.out.2.grown (grownBy_putObj' _ _ _) hH.out.2.size (fun k e => by cases e; omega)⟩
end Go.Proofs.Scn
set_option linter.unusedVariables false
set_option linter.unusedSimpArgs false
namespace Go.Proofs.Scn
open Go.RowKit Go.Lib Go.Proofs.YtolfpgccebdlpaaGreatDoorW.PrintWords
def trimV (s : ByteArray) : ByteArray := ⟨(Lib.trimS s.data.toList [32, 9, 10, 13]).toArray⟩
def splitV (s : ByteArray) (c : UInt8) : List ByteArray := (Lib.splitB ⟨#[c]⟩ 0 (Lib.countB s ⟨#[c]⟩) s).map trimV
theorem trim_any (s : ByteArray) (w : World) (hs : s.size < 4294967281) :
    Calls Tryz.prog 91 #[.string s] w fun e w' => e = .returned (.string (trimV s)) ∧ Below w.heap.size w w' := by
  have hcon : ∀ w, Calls Tryz.prog 132 #[.string s, .string ⟨#[32, 9, 10, 13]⟩] w fun e w' => e = .returned (.string (trimV s)) ∧ Below w.heap.size w w' := fun w => Any.strings_Trim_laid Tryz.lays160 (by kernel_rfl) s ⟨#[32, 9, 10, 13]⟩ w (by omega) (by decide) (ascii_of_all (by decide))
  generalize trimV s = r at hcon ⊢
  go_enter Tryz.func91, Tryz.ntmps91
  go_wp2_with (go_at_call 132; refine (hcon _).mono ?_; rintro e w' ⟨rfl, hB⟩)
  go_ret
  exact ⟨rfl, hB⟩
/-- when k pieces are trimmed -/
def spL (l : List ByteArray) (k : Nat) : List ByteArray := (l.take k).map trimV ++ l.drop k
theorem spL_at (l : List ByteArray) (k : Nat) (h : k < l.length) : (spL l k)[k]? = some l[k] := by
  unfold spL
  rw [List.getElem?_append_right (by simp; omega)]
  simp [List.getElem?_drop]
  rw [Nat.min_eq_left (by omega), Nat.sub_self, Nat.add_zero]
  exact List.getElem?_eq_getElem h
theorem spL_succ (l : List ByteArray) (k : Nat) (h : k < l.length) : (spL l k).set k (trimV l[k]) = spL l (k + 1) := by
  unfold spL
  rw [List.set_append_right _ _ (by simp; omega), List.take_succ_eq_append_getElem h, List.map_append, List.append_assoc]
  congr 1
  simp only [List.length_map, List.length_take]
  rw [Nat.min_eq_left (by omega), Nat.sub_self, List.drop_eq_getElem_cons h]
  rfl
def SpAt (l : List ByteArray) (B : Nat) (w wr : World) (k : Nat) : Prop := wr.heap[B]? = some (.cells ((spL l k).map Value.string).toArray 9 (0, 0)) ∧ Below w.heap.size w wr
theorem SpAt.cell {l : List ByteArray} {B k : Nat} {w wr : World} (h : SpAt l B w wr k) (hk : k < l.length) : wr.cell? ⟨B, k, none⟩ = some (.string l[k]) := by
  rw [blk_cell h.1]
  simp [spL_at l k hk]
theorem SpAt.below {l : List ByteArray} {B k : Nat} {w wr w1 : World} (h : SpAt l B w wr k) (hb : Below wr.heap.size wr w1) : SpAt l B w w1 k := ⟨blk_below h.1 hb, below_step h.2 hb⟩
theorem SpAt.put {l : List ByteArray} {B k : Nat} {w wr : World} (h : SpAt l B w wr k) (hB : w.heap.size ≤ B) (hk : k < l.length) : SpAt l B w (wr.setCell ⟨B, k, none⟩ (.string (trimV l[k]))) (k + 1) := by
  refine ⟨blk_put h.1 k _ ?_, h.2.setCell (p := ⟨B, k, none⟩) hB _⟩
  rw [← spL_succ l k hk]
  simp [List.map_set]
theorem split_conv (c : Int) (w : World) : (convert 97 9 (.slice (some ⟨w.heap.size, 0, none⟩) 1 1)).run Tryz.prog (w.alloc (.cells #[.int .u8 c] 5)) = .ok (.string ⟨#[UInt8.ofNat c.toNat]⟩) (w.alloc (.cells #[.int .u8 c] 5)) := by
  have h := run_convert_bytes_arg (P := Tryz.prog) (w.alloc (.cells #[.int .u8 c] 5)) 97 5 Tryz.underlying97 Tryz.underlying5 w.heap.size 0 1 1 [c] rfl (fun i hi => by
    obtain rfl : i = 0 := by omega
    rw [blk_cell (blk_new w _)]
    rfl) 9 Tryz.underlying9
  exact h
theorem pieces_le (sep : ByteArray) : ∀ (k : Nat) (s : ByteArray), ∀ x ∈ Lib.splitB sep 0 k s, x.size ≤ s.size
  | 0, s, x, h => by
    rw [Lib.splitB_zero, List.mem_singleton] at h
    rw [h]
    exact Nat.le_refl _
  | k + 1, s, x, h => by
    unfold Lib.splitB at h
    split at h
    · rw [List.mem_singleton] at h
      rw [h]
      exact Nat.le_refl _
    · rcases List.mem_cons.1 h with h | h
      · rw [h, ByteArray.size_extract]
        omega
      · have := pieces_le sep k _ x h
        rw [ByteArray.size_extract] at this
        omega
set_option maxHeartbeats 2000000 in
set_option maxRecDepth 100000 in
theorem split_any (s : ByteArray) (c : Int) (w : World) (hs : s.size < 4294967281) :
    Calls Tryz.prog 47 #[.string s, .int .u8 c] w fun e w' => ∃ v0_ : Value, e = .returned v0_ ∧ Kd.R Kd.string 9 w' w.heap.size (fun _ => True) v0_ (splitV s (UInt8.ofNat c.toNat)) ∧ Below w.heap.size w w' := by
  have hconv := split_conv c w
  have hle := Lib.countB_le ⟨#[UInt8.ofNat c.toNat]⟩ (Nat.le_refl _) s.size s (Nat.le_refl _)
  have hlen := Lib.splitB_all ⟨#[UInt8.ofNat c.toNat]⟩ (Nat.le_refl _) 0 _ s rfl
  have hS := fun w => ShX.xSplit_one Tryz.laysM146 s (UInt8.ofNat c.toNat) w hs
  obtain ⟨l, hl⟩ : ∃ l, Lib.splitB ⟨#[UInt8.ofNat c.toNat]⟩ 0 (Lib.countB s ⟨#[UInt8.ofNat c.toNat]⟩) s = l := ⟨_, rfl⟩
  have hsz : ∀ (j : Nat) (h : j < l.length), (l[j]'h).size < 4294967281 := fun j h => by
    have := pieces_le ⟨#[UInt8.ofNat c.toNat]⟩ (Lib.countB s ⟨#[UInt8.ofNat c.toNat]⟩) s l[j] (by rw [hl]; exact List.getElem_mem h)
    omega
  unfold splitV
  rw [hl] at hS hlen ⊢
  have hll : l.length ≤ 4294967281 := by omega
  rw [← hlen] at hS
  have hS2 : ∀ w, Calls Tryz.prog 90 #[.string s, .string ⟨#[UInt8.ofNat c.toNat]⟩] w fun e w' => e = .returned (.slice (some ⟨w.heap.size, 0, none⟩) l.length l.length) ∧ w' = w.alloc (.cells (l.map Value.string).toArray 9) := hS
  have HSZ : Aside (∀ (j : Nat) (h : j < l.length), (l[j]'h).size < 4294967281) := hsz
  have H0 : Aside (SpAt l (w.heap.size + 1) w ((w.alloc (.cells #[.int .u8 c] 5)).alloc (.cells (l.map Value.string).toArray 9)) 0) := by
    refine ⟨?_, ((Below.refl _ w).alloc (Nat.le_refl _) _).alloc (by simp) _⟩
    have := blk_new (w.alloc (.cells #[.int .u8 c] 5)) (.cells (l.map Value.string).toArray 9)
    simpa [spL] using this
  clear hlen hl hS hsz hle
  go_enter Tryz.func47, Tryz.ntmps47
  go_wp2_with (go_at_call 90; refine (hS2 _).mono ?_; rintro e w' ⟨rfl, rfl⟩)
  clear hS2 hconv
  go_loopw [15] (fun i wr => ∃ k : Nat, k ≤ l.length ∧ i = .int .i64 k ∧ Aside (SpAt l (w.heap.size + 1) w wr k)) (fun i _ => l.length - (RowKit.intOf i).toNat)
  case atStart => exact ⟨0, Nat.zero_le _, rfl, H0⟩
  case round =>
    clear H0
    obtain ⟨k, hk, rfl, A1⟩ := hrel
    by_cases hlt : k < l.length
    · have hltz : (k : Int) < (l.length : Int) := by omega
      obtain ⟨x, hx⟩ : ∃ x, l[k] = x := ⟨_, rfl⟩
      have hcell : wr.cell? ⟨w.heap.size + 1, k, none⟩ = some (.string x) := by rw [A1.out.cell hlt, hx]
      have hxs : x.size < 4294967281 := by rw [← hx]; exact HSZ.out k hlt
      have HX : Aside (l[k] = x) := hx
      clear hx
      go_wp2_with fail
      refine (trim_any x _ hxs).mono ?_
      rintro e w1 ⟨rfl, hb1⟩
      have A2 : Aside (SpAt l (w.heap.size + 1) w w1 k) := A1.out.below hb1
      have hcell2 := A2.out.cell hlt
      have hfz2 := blk_frozen A2.out.1 k
      clear hb1 hcell A1
      go_wp2
      refine ⟨⟨k + 1, by omega, by go_num, ?_⟩, by simp [RowKit.intOf]; omega⟩
      have h := A2.out.put (by omega) hlt
      rw [HX.out] at h
      exact h
    · obtain rfl : k = l.length := by omega
      have hltz : ¬ ((l.length : Int) < (l.length : Int)) := by omega
      go_wp2
      go_ret
      refine ⟨_, rfl, ⟨fun _ _ => True.intro, (l.map trimV).map Value.string, ⟨?_, .inr ⟨w.heap.size + 1, l.length, _, ?_, by omega, A1.out.1, by simp, by unfold maxLen; omega, ?_, ?_⟩⟩, Kd.reps_scalar _⟩, A1.out.2⟩
      · show _ = (l.map trimV).length * 1
        simp
      · simp
      · show _ = l.length * 1
        simp [spL]
      · show List.take ((l.map trimV).length * 1) _ = _
        simp [spL]
        exact List.take_of_length_le (by simp)
end Go.Proofs.Scn
set_option linter.unusedVariables false
set_option linter.unusedSimpArgs false
namespace Go.Proofs.Scn
open Go.Lib
abbrev bl : List UInt8 := [32, 9, 10, 13]
abbrev isB (c : UInt8) : Bool := bl.contains c
/-! ### Trim -/
def trimL (l : List UInt8) : List UInt8 := Lib.trimS l bl
theorem trimV_data (s : ByteArray) : (trimV s).data.toList = trimL s.data.toList := by simp [trimV, trimL]
theorem dw_cons_yes {p : UInt8 → Bool} {c : UInt8} {l : List UInt8} (h : p c = true) : (c :: l).dropWhile p = l.dropWhile p := by simp [List.dropWhile, h]
theorem dw_cons_no {p : UInt8 → Bool} {c : UInt8} {l : List UInt8} (h : p c = false) : (c :: l).dropWhile p = c :: l := by simp [List.dropWhile, h]
theorem dw_nil {p : UInt8 → Bool} : ∀ {l : List UInt8}, l.dropWhile p = [] ↔ ∀ c ∈ l, p c = true
  | [] => by simp
  | c :: t => by
    cases h : p c with
    | true =>
      rw [dw_cons_yes h, dw_nil]
      simp [h]
    | false =>
      rw [dw_cons_no h]
      simp [h]
/-- the blanks at the end are cut off first -/
theorem right_snoc_yes {l : List UInt8} {c : UInt8} (h : isB c = true) : Lib.trimRightS (l ++ [c]) bl = Lib.trimRightS l bl := by
  unfold Lib.trimRightS
  rw [List.reverse_append]
  show (List.dropWhile _ (c :: l.reverse)).reverse = _
  rw [dw_cons_yes h]
theorem right_snoc_no {l : List UInt8} {c : UInt8} (h : isB c = false) : Lib.trimRightS (l ++ [c]) bl = l ++ [c] := by
  unfold Lib.trimRightS
  rw [List.reverse_append]
  show (List.dropWhile _ (c :: l.reverse)).reverse = _
  rw [dw_cons_no h]
  simp
theorem right_cons {l : List UInt8} {c : UInt8} (h : Lib.trimRightS l bl ≠ []) : Lib.trimRightS (c :: l) bl = c :: Lib.trimRightS l bl := by
  unfold Lib.trimRightS at h ⊢
  rw [List.reverse_cons]
  have h2 : (l.reverse.dropWhile fun x => bl.contains x) ≠ [] := fun e => h (by rw [e]; rfl)
  rw [List.dropWhile_append]
  cases hd : (l.reverse.dropWhile fun x => bl.contains x) with
  | nil => exact absurd hd h2
  | cons a t => simp
theorem right_nil {l : List UInt8} (h : ∀ c ∈ l, isB c = true) : Lib.trimRightS l bl = [] := by
  unfold Lib.trimRightS
  rw [List.reverse_eq_nil_iff, dw_nil]
  intro c hc
  exact h c (List.mem_reverse.1 hc)
theorem right_none {l : List UInt8} (h : Lib.trimRightS l bl = []) : ∀ c ∈ l, isB c = true := by
  unfold Lib.trimRightS at h
  rw [List.reverse_eq_nil_iff, dw_nil] at h
  intro c hc
  exact h c (List.mem_reverse.2 hc)
theorem trim_cons {c : UInt8} {l : List UInt8} (h : isB c = true) : trimL (c :: l) = trimL l := by
  unfold trimL Lib.trimS
  by_cases e : Lib.trimRightS l bl = []
  · rw [e, right_nil (l := c :: l)]
    intro x hx
    rcases List.mem_cons.1 hx with rfl | hx
    · exact h
    · exact right_none e x hx
  · rw [right_cons e]
    unfold Lib.trimLeftS
    exact dw_cons_yes h
theorem trim_snoc {c : UInt8} {l : List UInt8} (h : isB c = true) : trimL (l ++ [c]) = trimL l := by
  unfold trimL Lib.trimS
  rw [right_snoc_yes h]
/-- no blank at either end -/
def tidy (l : List UInt8) : Prop := (∀ c, l.head? = some c → isB c = false) ∧ (∀ c, l.getLast? = some c → isB c = false)
theorem trim_tidy {l : List UInt8} (h : tidy l) : trimL l = l := by
  unfold trimL Lib.trimS
  have e : Lib.trimRightS l bl = l := by
    rcases List.eq_nil_or_concat l with rfl | ⟨t, c, rfl⟩
    · rfl
    · rw [List.concat_eq_append] at h ⊢
      exact right_snoc_no (h.2 c (by simp))
  rw [e]
  cases l with
  | nil => rfl
  | cons c t => exact dw_cons_no (h.1 c rfl)
theorem trim_is_tidy (l : List UInt8) : tidy (trimL l) := by
  have hh : ∀ (p : UInt8 → Bool) (l : List UInt8) c, (l.dropWhile p).head? = some c → p c = false := fun p l c hc => by
    have := List.head?_dropWhile_not p l
    rw [hc] at this
    simpa using this
  constructor
  · intro c hc
    exact hh _ _ c hc
  · intro c hc
    have : ∀ (l : List UInt8), (∀ c, l.getLast? = some c → isB c = false) → ∀ c, (Lib.trimLeftS l bl).getLast? = some c → isB c = false := fun l hl c hc => by
      unfold Lib.trimLeftS at hc
      obtain ⟨t, ht⟩ := List.dropWhile_suffix (l := l) (fun x => bl.contains x)
      refine hl c ?_
      rw [← ht, List.getLast?_append, hc]
      rfl
    refine this _ ?_ c hc
    intro c hc
    unfold Lib.trimRightS at hc
    rw [List.getLast?_reverse] at hc
    exact hh _ _ c hc
theorem trim_trim (l : List UInt8) : trimL (trimL l) = trimL l := trim_tidy (trim_is_tidy l)
theorem trim_len (l : List UInt8) : (trimL l).length ≤ l.length := by
  unfold trimL Lib.trimS
  refine Nat.le_trans (trimLeft_le _ _) ?_
  unfold Lib.trimRightS
  rw [List.length_reverse]
  refine Nat.le_trans (List.dropWhile_sublist _).length_le ?_
  simp
/-! ### Strip -/
/-- within a remark (true), or not -/
def scn (inside : Bool) : List UInt8 → List UInt8
  | [] => []
  | c :: t => match inside with
    | false => if c = 47 ∧ t.head? = some 42 then 32 :: scn true t.tail else c :: scn false t
    | true => if c = 42 ∧ t.head? = some 47 then scn false t.tail else scn true t
termination_by l => l.length
decreasing_by all_goals (simp; try omega)
theorem scn_nil (b : Bool) : scn b [] = [] := by rw [scn]
theorem scn_open {t : List UInt8} : scn false (47 :: 42 :: t) = 32 :: scn true t := by rw [scn]; simp
theorem scn_go {c : UInt8} {t : List UInt8} (h : ¬ (c = 47 ∧ t.head? = some 42)) : scn false (c :: t) = c :: scn false t := by rw [scn]; simp [h]
theorem scn_shut {t : List UInt8} : scn true (42 :: 47 :: t) = scn false t := by rw [scn]; simp
theorem scn_in {c : UInt8} {t : List UInt8} (h : ¬ (c = 42 ∧ t.head? = some 47)) : scn true (c :: t) = scn true t := by rw [scn]; simp [h]
theorem two_head {c d : UInt8} {t : List UInt8} (a b : UInt8) (h : c = a ∧ t.head? = some b) : ∃ u, c :: t = a :: b :: u := by
  obtain ⟨rfl, h2⟩ := h
  cases t with
  | nil => cases h2
  | cons x u =>
    simp at h2
    subst h2
    exact ⟨u, rfl⟩
theorem cut_nil (a b : UInt8) : Lib.cut [] [a, b] = ([], [], false) := by simp [Lib.cut, Lib.index]
theorem cut_here (a b : UInt8) (t : List UInt8) : Lib.cut (a :: b :: t) [a, b] = ([], t, true) := by
  unfold Lib.cut
  have : Lib.index (a :: b :: t) [a, b] = 0 := by simp [Lib.index, List.isPrefixOf]
  rw [this]
  simp
theorem cut_later {a b c : UInt8} {t : List UInt8} (h : ¬ (c = a ∧ t.head? = some b)) : Lib.cut (c :: t) [a, b] = (if (Lib.cut t [a, b]).2.2 = true then (c :: (Lib.cut t [a, b]).1, (Lib.cut t [a, b]).2.1, true) else (c :: t, [], false)) := by
  have hp : ([a, b] : List UInt8).isPrefixOf (c :: t) = false := by
    cases hq : ([a, b] : List UInt8).isPrefixOf (c :: t)
    · rfl
    · exfalso
      apply h
      cases t with
      | nil => simp [List.isPrefixOf] at hq
      | cons d u =>
        simp [List.isPrefixOf] at hq
        exact ⟨hq.1.symm, by simp [hq.2]⟩
  have hi : Lib.index (c :: t) [a, b] = if Lib.index t [a, b] == -1 then -1 else Lib.index t [a, b] + 1 := by
    rw [Lib.index, hp]
    rfl
  have hg := Lib.index_ge t [a, b]
  unfold Lib.cut
  rw [hi]
  by_cases e : Lib.index t [a, b] = -1
  · rw [e]
    simp
  · have e2 : (Lib.index t [a, b] == -1) = false := by simpa using e
    rw [e2]
    have h0 : 0 ≤ Lib.index t [a, b] := by omega
    simp only [Bool.false_eq_true, if_false]
    rw [if_pos (by omega), if_pos h0, if_pos rfl]
    have e3 : (Lib.index t [a, b] + 1).toNat = (Lib.index t [a, b]).toNat + 1 := by omega
    rw [e3]
    simp only [List.take_succ_cons]
    rw [show (Lib.index t [a, b]).toNat + 1 + [a, b].length = ((Lib.index t [a, b]).toNat + [a, b].length) + 1 by omega, List.drop_succ_cons]
theorem strip_scn : ∀ (n : Nat) (l : List UInt8), l.length ≤ n → (∀ k, l.length < k → stripF k l = scn false l) ∧ (∀ k, l.length < k → stripF k (Lib.cut l [42, 47]).2.1 = scn true l)
  | n, [], _ => by
    constructor
    · intro k hk
      obtain ⟨k, rfl⟩ : ∃ m, k = m + 1 := ⟨k - 1, by simp at hk; omega⟩
      rw [stripF, cut_nil, scn_nil]
      simp
    · intro k hk
      obtain ⟨k, rfl⟩ : ∃ m, k = m + 1 := ⟨k - 1, by simp at hk; omega⟩
      rw [cut_nil, stripF, cut_nil, scn_nil]
      simp
  | 0, _ :: _, h => by simp at h
  | n + 1, c :: t, h => by
    have ih := strip_scn n
    constructor
    · intro k hk
      obtain ⟨k, rfl⟩ : ∃ m, k = m + 1 := ⟨k - 1, by simp at hk; omega⟩
      by_cases e : c = 47 ∧ t.head? = some 42
      · obtain ⟨u, hu⟩ := two_head (d := 0) 47 42 e
        rw [hu] at h hk ⊢
        rw [stripF, cut_here, if_pos rfl, scn_open]
        simp only [List.length_cons] at h hk
        rw [(ih u (by omega)).2 k (by omega)]
        rfl
      · simp only [List.length_cons] at h hk
        have h1 := (ih t (by omega)).1 (k + 1) (by omega)
        rw [stripF] at h1
        rw [stripF, cut_later e, scn_go e, ← h1]
        by_cases f : (Lib.cut t [47, 42]).2.2 = true
        · rw [if_pos f, if_pos rfl, if_pos f]
          rfl
        · rw [if_neg f, if_neg f, if_neg (by simp), cut_no (by simpa using f)]
    · intro k hk
      by_cases e : c = 42 ∧ t.head? = some 47
      · obtain ⟨u, hu⟩ := two_head (d := 0) 42 47 e
        rw [hu] at h hk ⊢
        rw [cut_here, scn_shut]
        simp only [List.length_cons] at h hk
        exact (ih u (by omega)).1 k (by omega)
      · simp only [List.length_cons] at h hk
        have h1 := (ih t (by omega)).2 k (by omega)
        rw [cut_later e, scn_in e, ← h1]
        by_cases f : (Lib.cut t [42, 47]).2.2 = true
        · rw [if_pos f]
        · rw [if_neg f]
          have : (Lib.cut t [42, 47]).2.1 = [] := by
            unfold Lib.cut at f ⊢
            split at f
            · simp at f
            · rename_i g; rw [if_neg g]
          rw [this]
theorem stripV_data (s : ByteArray) : (stripV s).data.toList = scn false s.data.toList := by
  have := (strip_scn s.data.toList.length s.data.toList (Nat.le_refl _)).1 (s.size + 1) (by rw [← Lib.size_eq]; omega)
  simp [stripV, this]
theorem scn_len : ∀ (n : Nat) (b : Bool) (l : List UInt8), l.length ≤ n → (scn b l).length ≤ l.length
  | n, b, [], _ => by rw [scn_nil]; exact Nat.le_refl _
  | 0, _, _ :: _, h => by simp at h
  | n + 1, false, c :: t, h => by
    simp only [List.length_cons] at h
    by_cases e : c = 47 ∧ t.head? = some 42
    · obtain ⟨u, hu⟩ := two_head (d := 0) 47 42 e
      have hl : (c :: t).length = u.length + 2 := by rw [hu]; rfl
      rw [hu, scn_open]
      have := scn_len n true u (by simp at hl; omega)
      simp; omega
    · rw [scn_go e]
      have := scn_len n false t (by omega)
      simp; omega
  | n + 1, true, c :: t, h => by
    simp only [List.length_cons] at h
    by_cases e : c = 42 ∧ t.head? = some 47
    · obtain ⟨u, hu⟩ := two_head (d := 0) 42 47 e
      have hl : (c :: t).length = u.length + 2 := by rw [hu]; rfl
      rw [hu, scn_shut]
      have := scn_len n false u (by simp at hl; omega)
      simp; omega
    · rw [scn_in e]
      have := scn_len n true t (by omega)
      simp; omega
/-! ### Lower -/
theorem lowV_data (s : ByteArray) : (lowV s).data.toList = s.data.toList.map lowB := by simp [lowV]
theorem ba_ext {s t : ByteArray} (h : s.data.toList = t.data.toList) : s = t := by
  cases s; cases t
  simp at h
  rw [h]
end Go.Proofs.Scn
set_option linter.unusedVariables false
set_option linter.unusedSimpArgs false
namespace Go.Proofs.Scn
open Go.Lib
/-! ### one byte looked for -/
theorem idx_spec (c : UInt8) : ∀ l : List UInt8, (Lib.index l [c] = -1 ∧ c ∉ l) ∨ ∃ p t, l = p ++ c :: t ∧ c ∉ p ∧ Lib.index l [c] = (p.length : Int)
  | [] => by left; simp [Lib.index]
  | b :: l => by
    by_cases h : c = b
    · subst h
      right
      exact ⟨[], l, rfl, by simp, by simp [Lib.index, List.isPrefixOf]⟩
    · have hp : ([c] : List UInt8).isPrefixOf (b :: l) = false := by simp [List.isPrefixOf, h]
      rcases idx_spec c l with ⟨h1, h2⟩ | ⟨p, t, h1, h2, h3⟩
      · left
        refine ⟨by simp [Lib.index, hp, h1], ?_⟩
        simp [h, h2]
      · right
        refine ⟨b :: p, t, by rw [h1]; rfl, by simp [h, h2], ?_⟩
        have hn : ((p.length : Int) == -1) = false := by rw [beq_eq_false_iff_ne]; omega
        simp [Lib.index, hp, h3, hn]
theorem cut_spec (c : UInt8) (l : List UInt8) : (Lib.cut l [c] = (l, [], false) ∧ c ∉ l) ∨ ∃ p t, l = p ++ c :: t ∧ c ∉ p ∧ Lib.cut l [c] = (p, t, true) := by
  rcases idx_spec c l with ⟨h1, h2⟩ | ⟨p, t, h1, h2, h3⟩
  · left
    refine ⟨?_, h2⟩
    unfold Lib.cut
    rw [h1, if_neg (by decide)]
  · right
    refine ⟨p, t, h1, h2, ?_⟩
    unfold Lib.cut
    rw [h3, if_pos (by omega), h1]
    simp
theorem any_spec (cs : List UInt8) : ∀ l : List UInt8, (Lib.indexAny l cs = -1 ∧ ∀ c ∈ l, cs.contains c = false) ∨ ∃ p b t, l = p ++ b :: t ∧ (∀ c ∈ p, cs.contains c = false) ∧ cs.contains b = true ∧ Lib.indexAny l cs = (p.length : Int)
  | [] => by left; simp [Lib.indexAny]
  | b :: l => by
    cases h : cs.contains b with
    | true =>
      right
      refine ⟨[], b, l, rfl, by simp, h, ?_⟩
      unfold Lib.indexAny
      rw [if_pos h]
      rfl
    | false =>
      have e : Lib.indexAny (b :: l) cs = if Lib.indexAny l cs == -1 then -1 else Lib.indexAny l cs + 1 := by
        rw [Lib.indexAny, h]
        simp
      rcases any_spec cs l with ⟨h1, h2⟩ | ⟨p, d, t, h1, h2, h3, h4⟩
      · left
        refine ⟨by rw [e, h1]; rfl, ?_⟩
        intro c hc
        rcases List.mem_cons.1 hc with rfl | hc
        · exact h
        · exact h2 c hc
      · right
        refine ⟨b :: p, d, t, by rw [h1]; rfl, ?_, h3, ?_⟩
        · intro c hc
          rcases List.mem_cons.1 hc with rfl | hc
          · exact h
          · exact h2 c hc
        · have hn : ((p.length : Int) == -1) = false := by rw [beq_eq_false_iff_ne]; omega
          rw [e, h4, hn]
          simp
/-! ### splitting at a byte -/
def spl (c : UInt8) : List UInt8 → List (List UInt8)
  | [] => [[]]
  | x :: t => if x = c then [] :: spl c t else match spl c t with
    | [] => [[x]]
    | h :: r => (x :: h) :: r
theorem spl_hit {c : UInt8} {t : List UInt8} : spl c (c :: t) = [] :: spl c t := by simp [spl]
theorem spl_step {c x : UInt8} {t : List UInt8} {h : List UInt8} {r : List (List UInt8)} (hx : x ≠ c) (ht : spl c t = h :: r) : spl c (x :: t) = (x :: h) :: r := by simp [spl, hx, ht]
theorem spl_ne (c : UInt8) : ∀ l : List UInt8, ∃ h r, spl c l = h :: r
  | [] => ⟨[], [], rfl⟩
  | x :: t => by
    obtain ⟨h, r, e⟩ := spl_ne c t
    by_cases hx : x = c
    · subst hx
      exact ⟨_, _, spl_hit⟩
    · exact ⟨_, _, spl_step hx e⟩
theorem spl_none {c : UInt8} : ∀ {l : List UInt8}, c ∉ l → spl c l = [l]
  | [], _ => rfl
  | x :: t, h => by
    simp at h
    exact spl_step (fun e => h.1 e.symm) (spl_none h.2)
theorem spl_cut {c : UInt8} {t : List UInt8} : ∀ {p : List UInt8}, c ∉ p → spl c (p ++ c :: t) = p :: spl c t
  | [], _ => spl_hit
  | x :: p, h => by
    simp at h
    exact spl_step (fun e => h.1 e.symm) (spl_cut h.2)
theorem spl_app (c : UInt8) (t : List UInt8) : ∀ p : List UInt8, spl c (p ++ c :: t) = spl c p ++ spl c t
  | [] => spl_hit
  | x :: p => by
    by_cases hx : x = c
    · subst hx
      rw [spl_hit, List.cons_append, spl_hit, spl_app]
      rfl
    · obtain ⟨h, r, e⟩ := spl_ne c p
      have e2 := spl_app c t p
      rw [e] at e2
      rw [spl_step hx e]
      exact spl_step hx e2
theorem spl_snoc {c b : UInt8} (hb : b ≠ c) : ∀ p : List UInt8, ∃ xs y, spl c p = xs ++ [y] ∧ spl c (p ++ [b]) = xs ++ [y ++ [b]]
  | [] => ⟨[], [], rfl, by simp [spl, hb]⟩
  | x :: p => by
    obtain ⟨xs, y, e1, e2⟩ := spl_snoc hb p
    by_cases hx : x = c
    · subst hx
      exact ⟨[] :: xs, y, by rw [spl_hit, e1]; rfl, by rw [List.cons_append, spl_hit, e2]; rfl⟩
    · cases xs with
      | nil => exact ⟨[], x :: y, spl_step hx e1, spl_step hx e2⟩
      | cons h r => exact ⟨(x :: h) :: r, y, spl_step hx e1, spl_step hx e2⟩
theorem splitK_spl (c : UInt8) : ∀ (n : Nat) (l : List UInt8), l.length < n → Lib.splitK [c] 0 (Lib.countFrom [c] n l) l = spl c l
  | 0, l, h => by omega
  | n + 1, l, h => by
    rcases idx_spec c l with ⟨h1, h2⟩ | ⟨p, t, h1, h2, h3⟩
    · rw [Lib.countFrom, h1, spl_none h2]
      rfl
    · have hn : ((p.length : Int) == -1) = false := by rw [beq_eq_false_iff_ne]; omega
      have hd : l.drop (p.length + 1) = t := by rw [h1]; simp
      have ht : l.take p.length = p := by rw [h1]; simp
      have hl : t.length < n := by rw [h1] at h; simp at h; omega
      rw [Lib.countFrom, h3, hn, if_neg (by decide), Nat.add_comm 1, Lib.splitK, h3, hn, if_neg (by decide)]
      show l.take (p.length + 0) :: Lib.splitK [c] 0 (Lib.countFrom [c] n (l.drop (p.length + 1))) (l.drop (p.length + 1)) = _
      rw [hd, Nat.add_zero, ht, splitK_spl c n t hl, h1, spl_cut h2]
def ba (l : List UInt8) : ByteArray := ⟨l.toArray⟩
theorem ba_data (l : List UInt8) : (ba l).data.toList = l := by simp [ba]
theorem data_ba (s : ByteArray) : ba s.data.toList = s := by simp [ba]
theorem trimV_ba (s : ByteArray) : trimV s = ba (trimL s.data.toList) := rfl
theorem splitV_eq (s : ByteArray) (c : UInt8) : splitV s c = (spl c s.data.toList).map fun l => ba (trimL l) := by
  have e := Lib.splitB_data ⟨#[c]⟩ 0 (Lib.countB s ⟨#[c]⟩) s
  have e2 : Lib.splitK [c] 0 (Lib.countB s ⟨#[c]⟩) s.data.toList = spl c s.data.toList := splitK_spl c _ _ (Nat.lt_succ_self _)
  unfold splitV
  rw [← e2]
  rw [show ([c] : List UInt8) = (⟨#[c]⟩ : ByteArray).data.toList from rfl, ← e, List.map_map]
  rfl
/-! ### words -/
def wg : List UInt8 → List UInt8 → List (List UInt8)
  | cur, [] => if cur = [] then [] else [cur]
  | cur, c :: t => if isB c = true then (if cur = [] then wg [] t else cur :: wg [] t) else wg (cur ++ [c]) t
theorem wg_blank {c : UInt8} {t : List UInt8} (h : isB c = true) : wg [] (c :: t) = wg [] t := by rw [wg, if_pos h, if_pos rfl]
theorem wg_shut {c : UInt8} {cur t : List UInt8} (h : isB c = true) (hc : cur ≠ []) : wg cur (c :: t) = cur :: wg [] t := by rw [wg, if_pos h, if_neg hc]
theorem wg_go {c : UInt8} {cur t : List UInt8} (h : isB c = false) : wg cur (c :: t) = wg (cur ++ [c]) t := by rw [wg, h]; rfl
theorem wg_word {t : List UInt8} : ∀ {p cur : List UInt8}, (∀ c ∈ p, isB c = false) → wg cur (p ++ t) = wg (cur ++ p) t
  | [], cur, _ => by simp
  | c :: p, cur, h => by
    rw [List.cons_append, wg_go (h c (by simp)), wg_word fun d hd => h d (by simp [hd])]
    simp
theorem wg_trimLeft : ∀ l : List UInt8, wg [] (Lib.trimLeftS l bl) = wg [] l
  | [] => rfl
  | c :: t => by
    have ih := wg_trimLeft t
    unfold Lib.trimLeftS at ih ⊢
    cases h : isB c with
    | true => rw [dw_cons_yes h, wg_blank h, ih]
    | false => rw [dw_cons_no h]
theorem trimLeft_head {l : List UInt8} {c : UInt8} {t : List UInt8} (h : Lib.trimLeftS l bl = c :: t) : isB c = false := by
  induction l with
  | nil => cases h
  | cons d u ih =>
    unfold Lib.trimLeftS at h ih
    cases hd : isB d with
    | true => rw [dw_cons_yes hd] at h; exact ih h
    | false =>
      rw [dw_cons_no hd] at h
      cases h
      exact hd
theorem wordsF_nil : ∀ k, wordsF k [] = []
  | 0 => rfl
  | k + 1 => rfl
theorem wordsF_wg : ∀ (k : Nat) (l : List UInt8), l.length < k → wordsF k l = wg [] l
  | 0, l, h => by omega
  | k + 1, l, h => by
    have hl := trimLeft_le l bl
    rw [wordsF, ← wg_trimLeft l]
    generalize ht : Lib.trimLeftS l bl = t at hl
    rcases any_spec bl t with ⟨h1, h2⟩ | ⟨p, b, u, h1, h2, h3, h4⟩
    · have e : wordEnd t = t.length := by unfold wordEnd; rw [h1]; rfl
      rw [e]
      by_cases h0 : t.length = 0
      · rw [if_pos h0, List.length_eq_zero_iff.1 h0]; rfl
      · rw [if_neg h0, List.take_length, List.drop_length, wordsF_nil]
        have := wg_word (t := []) (p := t) (cur := []) h2
        rw [List.append_nil, List.nil_append] at this
        rw [this, wg, if_neg (fun e => h0 (by rw [e]; rfl))]
    · have e : wordEnd t = p.length := by unfold wordEnd; rw [h4, if_neg (by omega)]; rfl
      have hp : p ≠ [] := by
        intro hp
        subst hp
        have := trimLeft_head (l := l) (ht.trans h1)
        exact absurd (this.symm.trans h3) (by decide)
      have hp0 : p.length ≠ 0 := fun e => hp (List.length_eq_zero_iff.1 e)
      have hlen : (b :: u).length < k := by rw [h1] at hl; simp at hl ⊢; omega
      rw [e, if_neg hp0, h1]
      simp only [List.take_left, List.drop_left]
      rw [wordsF_wg k _ hlen, wg_blank h3, wg_word h2, List.nil_append, wg_shut h3 hp]
theorem wordsV_eq (s : ByteArray) : wordsV s = (wg [] s.data.toList).map ba := by
  unfold wordsV
  rw [wordsF_wg _ _ (by rw [← Lib.size_eq]; exact Nat.lt_succ_self _)]
  rfl
/-! ### blocks -/
def bgo : Option (List UInt8) → List UInt8 → List UInt8 → List (List UInt8 × List UInt8)
  | _, _, [] => []
  | none, cur, c :: t => if c = 123 then bgo (some cur) [] t else if c = 125 then bgo none [] t else bgo none (cur ++ [c]) t
  | some h, cur, c :: t => if c = 125 then (h, cur) :: bgo none [] t else bgo (some h) (cur ++ [c]) t
theorem bgo_nil (o : Option (List UInt8)) (cur : List UInt8) : bgo o cur [] = [] := by cases o <;> rfl
theorem bgo_open {cur t : List UInt8} : bgo none cur (123 :: t) = bgo (some cur) [] t := by simp [bgo]
theorem bgo_reset {cur t : List UInt8} : bgo none cur (125 :: t) = bgo none [] t := by simp [bgo]
theorem bgo_shut {h cur t : List UInt8} : bgo (some h) cur (125 :: t) = (h, cur) :: bgo none [] t := by simp [bgo]
theorem bgo_none {c : UInt8} {cur t : List UInt8} (h1 : c ≠ 123) (h2 : c ≠ 125) : bgo none cur (c :: t) = bgo none (cur ++ [c]) t := by simp [bgo, h1, h2]
theorem bgo_some {c : UInt8} {h cur t : List UInt8} (h2 : c ≠ 125) : bgo (some h) cur (c :: t) = bgo (some h) (cur ++ [c]) t := by simp [bgo, h2]
theorem bgo_none_app {t : List UInt8} : ∀ {p cur : List UInt8}, (∀ c ∈ p, c ≠ 123 ∧ c ≠ 125) → bgo none cur (p ++ t) = bgo none (cur ++ p) t
  | [], cur, _ => by simp
  | c :: p, cur, h => by
    rw [List.cons_append, bgo_none (h c (by simp)).1 (h c (by simp)).2, bgo_none_app fun d hd => h d (by simp [hd])]
    simp
theorem bgo_some_app {hd t : List UInt8} : ∀ {p cur : List UInt8}, (∀ c ∈ p, c ≠ 125) → bgo (some hd) cur (p ++ t) = bgo (some hd) (cur ++ p) t
  | [], cur, _ => by simp
  | c :: p, cur, h => by
    rw [List.cons_append, bgo_some (h c (by simp)), bgo_some_app fun d hd => h d (by simp [hd])]
    simp
end Go.Proofs.Scn
set_option linter.unusedVariables false
set_option linter.unusedSimpArgs false
namespace Go.Proofs.Val
open Go
def isDig (c : UInt8) : Bool := decide (48 ≤ c.toNat) && decide (c.toNat ≤ 57)
theorem isDig_iff {c : UInt8} : isDig c = true ↔ 48 ≤ c.toNat ∧ c.toNat ≤ 57 := by simp [isDig]
theorem u8_all {P : UInt8 → Prop} (h : ∀ n : Fin 256, P (UInt8.ofNat n.val)) (c : UInt8) : P c := by
  have := h ⟨c.toNat, c.toNat_lt⟩
  simpa using this
theorem dig_contains (c : UInt8) : ([48, 49, 50, 51, 52, 53, 54, 55, 56, 57] : List UInt8).contains c = isDig c :=
  u8_all (P := fun c => ([48, 49, 50, 51, 52, 53, 54, 55, 56, 57] : List UInt8).contains c = isDig c) (by decide +kernel) c
theorem dropWhile_nil {p : UInt8 → Bool} : ∀ {l : List UInt8}, l.dropWhile p = [] ↔ l.all p = true
  | [] => by simp
  | c :: l => by
    by_cases h : p c = true
    · simp [List.dropWhile, h, dropWhile_nil (l := l)]
    · simp [List.dropWhile, h]
theorem dropWhile_sub {p : UInt8 → Bool} (l : List UInt8) : (l.dropWhile p).all p = true → l.all p = true := fun h => by
  have h2 : (l.dropWhile p).dropWhile p = [] := dropWhile_nil.2 h
  by_cases e : l.dropWhile p = []
  · exact dropWhile_nil.1 e
  · obtain ⟨c, r, hr⟩ := List.exists_cons_of_ne_nil e
    have hc : p c = false := by
      have := List.head_dropWhile_not p (l := l) (by rw [hr]; simp)
      simpa [hr] using this
    rw [hr] at h
    simp [hc] at h
theorem trim_dig_nil (l : List UInt8) : Lib.trimS l [48, 49, 50, 51, 52, 53, 54, 55, 56, 57] = [] ↔ l.all isDig = true := by
  have e : ∀ l : List UInt8, l.dropWhile (([48, 49, 50, 51, 52, 53, 54, 55, 56, 57] : List UInt8).contains ·) = l.dropWhile isDig := fun l => by
    congr 1; funext c; exact dig_contains c
  unfold Lib.trimS Lib.trimLeftS Lib.trimRightS
  rw [e, e, dropWhile_nil, List.all_reverse]
  constructor
  · intro h
    have := dropWhile_sub _ h
    rwa [List.all_reverse] at this
  · intro h
    have : l.reverse.dropWhile isDig = [] := dropWhile_nil.2 (by rw [List.all_reverse]; exact h)
    rw [this]; rfl
/-- what digits spell behind others that spell acc -/
def decV (acc : Nat) (l : List UInt8) : Nat := l.foldl (fun a c => a * 10 + (c.toNat - 48)) acc
theorem decV_nil (a : Nat) : decV a [] = a := rfl
theorem decV_cons (a : Nat) (c : UInt8) (l : List UInt8) : decV a (c :: l) = decV (a * 10 + (c.toNat - 48)) l := by unfold decV; rw [List.foldl_cons]
theorem decV_append (a : Nat) (l m : List UInt8) : decV a (l ++ m) = decV (decV a l) m := List.foldl_append
theorem decV_lt : ∀ (l : List UInt8) (a k : Nat), l.all isDig = true → a < 10 ^ k → decV a l < 10 ^ (k + l.length)
  | [], a, k, _, h => by simpa [decV] using h
  | c :: l, a, k, hd, h => by
    simp only [List.all_cons, Bool.and_eq_true, isDig_iff] at hd
    rw [decV_cons]
    have := decV_lt l (a * 10 + (c.toNat - 48)) (k + 1) hd.2 (by rw [Nat.pow_succ]; omega)
    rw [List.length_cons, show k + (l.length + 1) = k + 1 + l.length by omega]
    exact this
theorem parseM_dig (M : Nat) (hM : 1000000000000000000 ≤ M) (l : List UInt8) : ∀ (a k : Nat), l.all isDig = true → a < 10 ^ k → k + l.length ≤ 18 → Lib.parseUintM M a l = .ok (decV a l) := by
  induction l with
  | nil => intro a k _ _ _; rfl
  | cons c l ih =>
    intro a k hd h hk
    simp only [List.all_cons, Bool.and_eq_true, isDig_iff] at hd
    rw [List.length_cons] at hk
    have hp : 10 ^ k ≤ 10 ^ 17 := Nat.pow_le_pow_right (by omega) (by omega)
    generalize h17 : 10 ^ 17 = T at hp
    have hT : T = 100000000000000000 := h17.symm
    have ih := ih (a * 10 + (c.toNat - 48)) (k + 1) hd.2 (by rw [Nat.pow_succ]; omega) (by omega)
    have hc := hd.1
    clear hd h17
    rw [Lib.parseUintM, if_pos hc, if_neg (by omega), if_neg (by omega), ih, decV_cons]
theorem parse_dig {l : List UInt8} (hd : l.all isDig = true) (hn : l ≠ []) (hl : l.length ≤ 18) : Lib.parseIntB 64 l = .ok (decV 0 l : Int) := by
  obtain ⟨c, r, rfl⟩ := List.exists_cons_of_ne_nil hn
  have hc := hd
  simp only [List.all_cons, Bool.and_eq_true, isDig_iff] at hc
  have hm := parseM_dig (2 ^ 64 - 1) (by decide) (c :: r) 0 0 hd (by simp) (by omega)
  have hv := decV_lt (c :: r) 0 0 hd (by simp)
  have hp : 10 ^ (0 + (c :: r).length) ≤ 1000000000000000000 := Nat.le_trans (Nat.pow_le_pow_right (by omega) (by omega : 0 + (c :: r).length ≤ 18)) (Nat.le_of_eq (by rfl))
  have h63 : (2 : Nat) ^ (64 - 1) = 9223372036854775808 := by decide
  rw [Lib.parseIntB_plain 64 c r (by omega) (by omega), Lib.parseUintB, if_neg (by simp), hm, h63]
  show (if 9223372036854775808 ≤ decV 0 (c :: r) then _ else _) = _
  rw [if_neg (by omega)]
def digB (l : List UInt8) (m : Int) : Bool := decide (l ≠ []) && (decide ((l.length : Int) ≤ m) && l.all isDig)
theorem digB_iff {l : List UInt8} {m : Int} : digB l m = true ↔ l ≠ [] ∧ (l.length : Int) ≤ m ∧ l.all isDig = true := by simp [digB]
def zeros6 : List UInt8 := [48, 48, 48, 48, 48, 48]
/-- the six places of a part -/
def sixV (part : List UInt8) : Nat := decV 0 ((part ++ zeros6).take 6)
theorem six_dig {part : List UInt8} (h : part.all isDig = true) : ((part ++ zeros6).take 6).all isDig = true ∧ ((part ++ zeros6).take 6).length = 6 := by
  refine ⟨List.all_eq_true.2 fun c hc => ?_, by simp [zeros6]⟩
  rcases List.mem_append.1 (List.mem_of_mem_take hc) with h' | h'
  · exact List.all_eq_true.1 h c h'
  · simp only [zeros6, List.mem_cons, List.mem_nil_iff, or_false] at h'
    rcases h' with rfl | rfl | rfl | rfl | rfl | rfl <;> decide
theorem six_lt {part : List UInt8} (h : part.all isDig = true) : sixV part < 1000000 := by
  have := decV_lt _ 0 0 (six_dig h).1 (by simp)
  rw [(six_dig h).2] at this
  simpa [sixV] using this
/-- a number's text: below 0, the whole, the part, whether there is a point -/
def numParts (l : List UInt8) : Bool × List UInt8 × List UInt8 × Bool := (Lib.hasPrefix l [45], Lib.cut (Lib.trimPrefix l [45]) [46])
def numOk (l : List UInt8) : Bool := digB (numParts l).2.1 9 && (!(numParts l).2.2.2 || digB (numParts l).2.2.1 6)
def numA (l : List UInt8) : Int := (decV 0 (numParts l).2.1 : Int) * 64 + (sixV (numParts l).2.2.1 : Int) * 64 / 1000000
def numN (l : List UInt8) : Int := if numOk l = true then (if (numParts l).1 = true then -numA l else numA l) else 0
end Go.Proofs.Val
set_option linter.unusedVariables false
set_option linter.unusedSimpArgs false
namespace Go.Proofs.Val
open Go
theorem index_one (c : UInt8) : ∀ (p t : List UInt8), c ∉ p → Lib.index (p ++ c :: t) [c] = p.length
  | [], t, _ => by simp [Lib.index, List.isPrefixOf]
  | d :: p, t, h => by
    have hd : ¬ c = d := fun e => h (by simp [e])
    have ih := index_one c p t (fun e => h (by simp [e]))
    rw [List.cons_append, Lib.index, ih]
    have h1 : ([c].isPrefixOf (d :: (p ++ c :: t))) = false := by simp [List.isPrefixOf, hd]
    rw [h1]
    have h2 : (((p.length : Int)) == -1) = false := beq_eq_false_iff_ne.2 (by omega)
    rw [h2]
    simp
theorem index_not (c : UInt8) : ∀ (p : List UInt8), c ∉ p → Lib.index p [c] = -1
  | [], _ => by simp [Lib.index]
  | d :: p, h => by
    have hd : ¬ c = d := fun e => h (by simp [e])
    have ih := index_not c p (fun e => h (by simp [e]))
    rw [Lib.index, ih]
    have h1 : ([c].isPrefixOf (d :: p)) = false := by simp [List.isPrefixOf, hd]
    rw [h1]; rfl
theorem cut_at_one {c : UInt8} {p : List UInt8} (t : List UInt8) (h : c ∉ p) : Lib.cut (p ++ c :: t) [c] = (p, t, true) := by
  unfold Lib.cut
  rw [index_one c p t h, if_pos (by omega)]
  simp
theorem cut_not {c : UInt8} {p : List UInt8} (h : c ∉ p) : Lib.cut p [c] = (p, [], false) := by
  unfold Lib.cut
  rw [index_not c p h, if_neg (by omega)]
theorem dig_not {c : UInt8} {l : List UInt8} (h : l.all isDig = true) (hc : isDig c = false) : c ∉ l := fun e => by
  have := List.all_eq_true.1 h c e
  rw [hc] at this; cases this
/-! ### the digits of a number -/
theorem dd_dig (u : Nat) : (Lib.decDigits u).all isDig = true := by
  induction u using Nat.strongRecOn with
  | _ u ih =>
    rw [Lib.decDigits]
    split
    · rename_i h
      rw [List.all_cons, List.all_nil, Bool.and_true, isDig_iff, UInt8.toNat_ofNat']
      omega
    · rename_i h
      rw [List.all_append, ih (u / 10) (by omega), List.all_cons, List.all_nil, Bool.and_true, Bool.true_and, isDig_iff, UInt8.toNat_ofNat']
      omega
theorem dd_val (u : Nat) : decV 0 (Lib.decDigits u) = u := by
  induction u using Nat.strongRecOn with
  | _ u ih =>
    rw [Lib.decDigits]
    split
    · rename_i h
      rw [decV_cons, decV_nil, UInt8.toNat_ofNat']
      omega
    · rename_i h
      rw [decV_append, ih (u / 10) (by omega), decV_cons, decV_nil, UInt8.toNat_ofNat']
      omega
theorem dd_ne (u : Nat) : Lib.decDigits u ≠ [] := fun e => by
  have := Lib.decDigits_length u
  rw [e] at this
  have := Lib.nDigits_pos u
  simp at *; omega
theorem dd_len {u k : Nat} (h1 : 1 ≤ k) (h : u < 10 ^ k) : (Lib.decDigits u).length ≤ k := by
  rw [Lib.decDigits_length]
  rcases Nat.lt_or_ge k (Lib.nDigits u) with hk | hk
  · exfalso
    have aux : ∀ (k u : Nat), 1 ≤ k → k < Lib.nDigits u → 10 ^ k ≤ u := by
      intro k
      induction k with
      | zero => intro u h; omega
      | succ k ih =>
        intro u _ hk
        by_cases hu : u < 10
        · rw [Lib.nDigits_small hu] at hk; omega
        · rw [Lib.nDigits_big hu] at hk
          by_cases hk0 : k = 0
          · subst hk0; simp; omega
          · have := ih (u / 10) (by omega) (by omega)
            rw [Nat.pow_succ]
            omega
    have := aux k u h1 hk
    omega
  · exact hk
theorem decV_acc (l : List UInt8) : ∀ a, decV a l = a * 10 ^ l.length + decV 0 l := by
  induction l with
  | nil => intro a; simp [decV]
  | cons c l ih =>
    intro a
    rw [decV_cons, decV_cons, ih, ih (0 * 10 + (c.toNat - 48)), List.length_cons, Nat.pow_succ, Nat.add_mul, Nat.mul_assoc, Nat.mul_comm 10, Nat.zero_mul, Nat.zero_add]
    omega
/-- a number of seven digits, the first one 1: the six behind it -/
theorem dd_seven {r : Nat} (h : r < 1000000) : ∃ s, Lib.decDigits (1000000 + r) = 49 :: s ∧ s.length = 6 ∧ s.all isDig = true ∧ decV 0 s = r := by
  have h1 := dd_len (u := 1000000 + r) (k := 7) (by omega) (by simp; omega)
  have h2 := dd_dig (1000000 + r)
  have h3 := dd_val (1000000 + r)
  have hl : 7 ≤ (Lib.decDigits (1000000 + r)).length := by
    rcases Nat.lt_or_ge (Lib.decDigits (1000000 + r)).length 7 with hlt | hge
    · have := decV_lt _ 0 0 h2 (by simp)
      have h10 : 10 ^ (0 + (Lib.decDigits (1000000 + r)).length) ≤ 10 ^ 6 := Nat.pow_le_pow_right (by omega) (by omega)
      rw [h3] at this
      have h6 : (10 : Nat) ^ 6 = 1000000 := by decide
      generalize 10 ^ (0 + (Lib.decDigits (1000000 + r)).length) = T at h10 this
      omega
    · exact hge
  obtain ⟨c, s, hc⟩ := List.exists_cons_of_ne_nil (dd_ne (1000000 + r))
  rw [hc] at h1 h2 h3 hl ⊢
  rw [List.length_cons] at h1 hl
  rw [List.all_cons, Bool.and_eq_true] at h2
  have hs : s.length = 6 := by omega
  rw [decV_cons, decV_acc, hs] at h3
  have hb := decV_lt s 0 0 h2.2 (by simp)
  rw [hs] at hb
  have hcc := isDig_iff.1 h2.1
  simp at h3 hb
  have hcv : c.toNat = 49 := by omega
  have hc49 : c = 49 := by
    have : c = UInt8.ofNat c.toNat := by simp
    rw [this, hcv]; rfl
  rw [hc49]
  exact ⟨s, rfl, hs, h2.2, by rw [hcv] at h3; omega⟩
/-! ### zeros behind a part -/
theorem trz (s : List UInt8) : ∃ k, s = Lib.trimRightS s [48] ++ List.replicate k 48 ∧ (∀ c, (Lib.trimRightS s [48]).getLast? = some c → c ≠ 48) := by
  have aux : ∀ r : List UInt8, ∃ k, r = List.replicate k 48 ++ r.dropWhile (([48] : List UInt8).contains ·) ∧ (∀ c, (r.dropWhile (([48] : List UInt8).contains ·)).head? = some c → c ≠ 48) := by
    intro r
    induction r with
    | nil => exact ⟨0, by simp, by simp⟩
    | cons c r ih =>
      by_cases h : c = 48
      · subst h
        obtain ⟨k, h1, h2⟩ := ih
        refine ⟨k + 1, ?_, ?_⟩
        · have e : (48 :: r : List UInt8).dropWhile (([48] : List UInt8).contains ·) = r.dropWhile (([48] : List UInt8).contains ·) := by simp [List.dropWhile]
          rw [e, List.replicate_succ, List.cons_append, ← h1]
        · simpa [List.dropWhile] using h2
      · have hh : (([48] : List UInt8).contains c) = false := by simp [h]
        refine ⟨0, by simp [List.dropWhile, h], ?_⟩
        intro d hd
        simp only [List.dropWhile, hh] at hd
        simp at hd
        rw [← hd]; exact h
  obtain ⟨k, h1, h2⟩ := aux s.reverse
  refine ⟨k, ?_, ?_⟩
  · have := congrArg List.reverse h1
    rw [List.reverse_reverse, List.reverse_append, List.reverse_replicate] at this
    exact this
  · intro c hc
    apply h2 c
    unfold Lib.trimRightS at hc
    rw [List.getLast?_reverse] at hc
    exact hc
theorem six_trim {s : List UInt8} (h6 : s.length = 6) : sixV (Lib.trimRightS s [48]) = decV 0 s := by
  obtain ⟨k, h1, _⟩ := trz s
  generalize Lib.trimRightS s [48] = t at h1
  have hk : t.length + k = 6 := by rw [h1] at h6; simpa using h6
  unfold sixV
  congr 1
  rw [h1, List.take_append]
  have e : zeros6 = List.replicate 6 48 := rfl
  rw [e, List.take_replicate, List.take_of_length_le (by omega)]
  congr 2
  omega
/-! ### the text -/
def fracL (r : Nat) : List UInt8 := Lib.trimRightS ((Lib.decDigits (1000000 + r * 15625)).drop 1) [48]
def decL (n : Int) : List UInt8 :=
  Lib.trimSuffix ((if n < 0 then [45] else []) ++ Lib.decDigits (n.natAbs / 64) ++ ([46] ++ fracL (n.natAbs % 64))) [46]
theorem frac_ok {r : Nat} (h : r < 64) : (fracL r).all isDig = true ∧ (fracL r).length ≤ 6 ∧ sixV (fracL r) = r * 15625 := by
  obtain ⟨s, h1, h2, h3, h4⟩ := dd_seven (r := r * 15625) (by omega)
  have e : fracL r = Lib.trimRightS s [48] := by unfold fracL; rw [h1]; rfl
  obtain ⟨k, h5, _⟩ := trz s
  rw [e]
  refine ⟨?_, ?_, by rw [six_trim h2, h4]⟩
  · rw [h5, List.all_append, Bool.and_eq_true] at h3
    exact h3.1
  · rw [h5, List.length_append] at h2
    omega
theorem suffix_snoc (l : List UInt8) (c d : UInt8) : Lib.hasSuffix (l ++ [c]) [d] = decide (c = d) := by
  unfold Lib.hasSuffix
  rw [Bool.eq_iff_iff, List.isSuffixOf_iff_suffix, decide_eq_true_iff]
  constructor
  · rintro ⟨t, ht⟩
    have := congrArg List.getLast? ht
    simp at this
    exact this.symm
  · rintro rfl
    exact ⟨l, rfl⟩
theorem decL_eq (n : Int) : decL n = (if n < 0 then [45] else []) ++ Lib.decDigits (n.natAbs / 64) ++ (if fracL (n.natAbs % 64) = [] then [] else 46 :: fracL (n.natAbs % 64)) := by
  have hf := (frac_ok (r := n.natAbs % 64) (by omega)).1
  unfold decL
  generalize fracL (n.natAbs % 64) = t at hf ⊢
  generalize (if n < 0 then [45] else []) ++ Lib.decDigits (n.natAbs / 64) = p
  by_cases h : t = []
  · rw [if_pos h, h]
    unfold Lib.trimSuffix
    rw [List.append_nil, suffix_snoc, if_pos (by decide)]
    simp
  · rw [if_neg h]
    obtain ⟨t', c, rfl⟩ : ∃ t' c, t = t' ++ [c] := ⟨t.dropLast, t.getLast h, (List.dropLast_concat_getLast h).symm⟩
    have hc : isDig c = true := by simp at hf; exact hf.2
    unfold Lib.trimSuffix
    rw [← List.append_assoc, ← List.append_assoc, suffix_snoc, if_neg]
    · simp
    · rw [decide_eq_true_iff]
      rintro rfl
      cases hc
theorem prefix_neg (l : List UInt8) : Lib.hasPrefix (45 :: l) [45] = true ∧ Lib.trimPrefix (45 :: l) [45] = l := by
  have h : Lib.hasPrefix (45 :: l) [45] = true := by simp [Lib.hasPrefix, List.isPrefixOf]
  exact ⟨h, by unfold Lib.trimPrefix; rw [if_pos h]; rfl⟩
theorem prefix_pos {l r : List UInt8} (h : l.all isDig = true) (hl : l ≠ []) : Lib.hasPrefix (l ++ r) [45] = false ∧ Lib.trimPrefix (l ++ r) [45] = l ++ r := by
  obtain ⟨c, t, rfl⟩ := List.exists_cons_of_ne_nil hl
  have hc : isDig c = true := by simp at h; exact h.1
  have : c ≠ 45 := fun e => by rw [e] at hc; cases hc
  have h2 : Lib.hasPrefix (c :: t ++ r) [45] = false := by simp [Lib.hasPrefix, List.isPrefixOf]; exact fun e => this e.symm
  exact ⟨h2, by unfold Lib.trimPrefix; rw [if_neg (by rw [h2]; simp)]⟩
/-- what a sign, digits, and a part of digits, spell -/
theorem num_text (b : Bool) {w t : List UInt8} (hw : digB w 9 = true) (ht : t = [] ∨ digB t 6 = true) :
    numOk ((if b = true then [45] else []) ++ w ++ (if t = [] then [] else 46 :: t)) = true ∧
    numN ((if b = true then [45] else []) ++ w ++ (if t = [] then [] else 46 :: t)) = (if b = true then -((decV 0 w : Int) * 64 + (sixV t : Int) * 64 / 1000000) else (decV 0 w : Int) * 64 + (sixV t : Int) * 64 / 1000000) := by
  obtain ⟨w1, w2, w3⟩ := digB_iff.1 hw
  have hp : numParts ((if b = true then [45] else []) ++ w ++ (if t = [] then [] else 46 :: t)) = (b, w, t, decide (t ≠ [])) := by
    have hc : Lib.cut (w ++ (if t = [] then [] else 46 :: t)) [46] = (w, t, decide (t ≠ [])) := by
      by_cases h : t = []
      · rw [if_pos h, List.append_nil, cut_not (dig_not w3 (by decide)), h]; rfl
      · rw [if_neg h, cut_at_one _ (dig_not w3 (by decide))]; simp [h]
    unfold numParts
    cases b
    · rw [if_neg (by simp), List.nil_append, (prefix_pos w3 w1).1, (prefix_pos w3 w1).2, hc]
    · rw [if_pos rfl, List.append_assoc, List.singleton_append, (prefix_neg _).1, (prefix_neg _).2, hc]
  have hok : numOk ((if b = true then [45] else []) ++ w ++ (if t = [] then [] else 46 :: t)) = true := by
    unfold numOk
    rw [hp]
    show (digB w 9 && (!(decide (t ≠ [])) || digB t 6)) = true
    rw [hw]
    rcases ht with rfl | ht
    · rfl
    · rw [ht]; simp
  refine ⟨hok, ?_⟩
  unfold numN numA
  rw [hok, if_pos rfl, hp]
theorem decL_read (n : Int) (h1 : -63999999999 ≤ n) (h2 : n ≤ 63999999999) : numOk (decL n) = true ∧ numN (decL n) = n := by
  obtain ⟨f1, f2, f3⟩ := frac_ok (r := n.natAbs % 64) (by omega)
  rw [decL_eq]
  have hw : digB (Lib.decDigits (n.natAbs / 64)) 9 = true := digB_iff.2 ⟨dd_ne _, by have := dd_len (u := n.natAbs / 64) (k := 9) (by omega) (by simp; omega); omega, dd_dig _⟩
  have ht : fracL (n.natAbs % 64) = [] ∨ digB (fracL (n.natAbs % 64)) 6 = true := by
    by_cases h : fracL (n.natAbs % 64) = []
    · exact .inl h
    · exact .inr (digB_iff.2 ⟨h, by omega, f1⟩)
  have := num_text (decide (n < 0)) hw ht
  simp only [decide_eq_true_eq] at this
  refine ⟨this.1, this.2.trans ?_⟩
  rw [dd_val, f3]
  split <;> omega
theorem decL_front (n : Int) : ∃ c t, decL n = c :: t ∧ (c = 45 ∨ isDig c = true) := by
  rw [decL_eq]
  by_cases h : n < 0
  · rw [if_pos h]; exact ⟨45, _, rfl, .inl rfl⟩
  · rw [if_neg h]
    obtain ⟨c, t, hc⟩ := List.exists_cons_of_ne_nil (dd_ne (n.natAbs / 64))
    have hd := dd_dig (n.natAbs / 64)
    rw [hc] at hd ⊢
    rw [List.all_cons, Bool.and_eq_true] at hd
    exact ⟨c, _, rfl, .inr hd.1⟩
theorem decL_in (n : Int) : ∀ c ∈ decL n, c = 45 ∨ c = 46 ∨ isDig c = true := by
  intro c hc
  rw [decL_eq] at hc
  have f1 := (frac_ok (r := n.natAbs % 64) (by omega)).1
  rcases List.mem_append.1 hc with hc | hc
  · rcases List.mem_append.1 hc with hc | hc
    · split at hc
      · simp at hc; exact .inl hc
      · cases hc
    · exact .inr (.inr (List.all_eq_true.1 (dd_dig _) c hc))
  · split at hc
    · cases hc
    · rcases List.mem_cons.1 hc with rfl | hc
      · exact .inr (.inl rfl)
      · exact .inr (.inr (List.all_eq_true.1 f1 c hc))
theorem decL_len (n : Int) (h1 : -63999999999 ≤ n) (h2 : n ≤ 63999999999) : (decL n).length ≤ 17 := by
  rw [decL_eq]
  have f2 := (frac_ok (r := n.natAbs % 64) (by omega)).2.1
  have := dd_len (u := n.natAbs / 64) (k := 9) (by omega) (by simp; omega)
  rw [List.length_append, List.length_append]
  split <;> split <;> simp <;> omega
end Go.Proofs.Val
set_option linter.unusedVariables false
set_option linter.unusedSimpArgs false
namespace Go.Proofs
open Go.RowKit
abbrev bs (l : List UInt8) : Value := .string ⟨l.toArray⟩
def z89 : List Value := [.string ByteArray.empty, .bool false, .bool false, .bool false, .bool false, .bool false, .bool false, .slice none 0 0, .int .i64 0, .int .i64 0]
/-- one of 'sort': name, auto length part below color number, words, first -/
def srt (name : List UInt8) (a b c d e f : Bool) (w : Value) (k n : Int) : List Value := [.string ⟨name.toArray⟩, .bool a, .bool b, .bool c, .bool d, .bool e, .bool f, w, .int .i64 k, .int .i64 n]
def nilS : Value := .slice none 0 0
def rowP (b n : Nat) : Value := .slice (some ⟨b, 0, none⟩) n n
def sortsL (nw nh : List UInt8) (m p o : List (List Value)) (b1 b2 b3 b4 : Nat) : List (List Value) :=
  [z89, srt [100, 105, 115, 112, 108, 97, 121] false false false false false false (rowP b1 4) 5 1,
   srt nw true true true false false false nilS 1 0, srt nh true true true false false false nilS 1 0] ++ m ++ p ++ o ++
  [srt [99, 111, 108, 111, 114] false false false false true false nilS 4 0,
   srt [98, 97, 99, 107, 103, 114, 111, 117, 110, 100, 45, 99, 111, 108, 111, 114] false false false false true false nilS 4 16777215,
   srt [102, 111, 110, 116, 45, 115, 105, 122, 101] false true false false false false nilS 2 1024,
   srt [116, 101, 120, 116, 45, 97, 108, 105, 103, 110] false false false false false false (rowP b2 3) 5 0,
   srt [102, 108, 101, 120, 45, 103, 114, 111, 119] false false false false false true nilS 6 0,
   srt [102, 108, 101, 120, 45, 115, 104, 114, 105, 110, 107] false false false false false true nilS 6 64,
   srt [102, 108, 101, 120, 45, 100, 105, 114, 101, 99, 116, 105, 111, 110] false false false false false false (rowP b3 2) 5 0,
   srt [106, 117, 115, 116, 105, 102, 121, 45, 99, 111, 110, 116, 101, 110, 116] false false false false false false (rowP b4 4) 5 0,
   srt [111, 114, 100, 101, 114] false false false true false true nilS 6 0,
   srt [108, 101, 102, 116] false true false true false false nilS 2 0,
   srt [116, 111, 112] false true false true false false nilS 2 0]
def arrOf (l : List (List Value)) : Array Value := l.flatten.toArray
def z95 : Array Value := arrOf (List.replicate 27 z89)
theorem zero95 (w : World) : (zeroValue 191).run Tryz.prog w = .ok (.agg z95) w := by kernel_rfl
def four : List (List Value) := [z89, z89, z89, z89]
theorem built95 (b1 b2 b3 b4 : Nat) : Tryz.prog.built 191 [(1, .agg #[.string { data := #[100, 105, 115, 112, 108, 97, 121] }, .bool false, .bool false, .bool false, .bool false, .bool false, .bool false, .slice (some ⟨b1, 0, none⟩) 4 4, .int .i64 5, .int .i64 1]),
   (2, .agg #[.string { data := #[] }, .bool true, .bool true, .bool true, .bool false, .bool false, .bool false, .slice none 0 0, .int .i64 1, .int .i64 0]),
   (3, .agg #[.string { data := #[] }, .bool true, .bool true, .bool true, .bool false, .bool false, .bool false, .slice none 0 0, .int .i64 1, .int .i64 0]),
   (16, .agg (srt [99, 111, 108, 111, 114] false false false false true false nilS 4 0).toArray),
   (17, .agg (srt [98, 97, 99, 107, 103, 114, 111, 117, 110, 100, 45, 99, 111, 108, 111, 114] false false false false true false nilS 4 16777215).toArray),
   (18, .agg (srt [102, 111, 110, 116, 45, 115, 105, 122, 101] false true false false false false nilS 2 1024).toArray),
   (19, .agg (srt [116, 101, 120, 116, 45, 97, 108, 105, 103, 110] false false false false false false (rowP b2 3) 5 0).toArray),
   (20, .agg (srt [102, 108, 101, 120, 45, 103, 114, 111, 119] false false false false false true nilS 6 0).toArray),
   (21, .agg (srt [102, 108, 101, 120, 45, 115, 104, 114, 105, 110, 107] false false false false false true nilS 6 64).toArray),
   (22, .agg (srt [102, 108, 101, 120, 45, 100, 105, 114, 101, 99, 116, 105, 111, 110] false false false false false false (rowP b3 2) 5 0).toArray),
   (23, .agg (srt [106, 117, 115, 116, 105, 102, 121, 45, 99, 111, 110, 116, 101, 110, 116] false false false false false false (rowP b4 4) 5 0).toArray),
   (24, .agg (srt [111, 114, 100, 101, 114] false false false true false true nilS 6 0).toArray),
   (25, .agg (srt [108, 101, 102, 116] false true false true false false nilS 2 0).toArray),
   (26, .agg (srt [116, 111, 112] false true false true false false nilS 2 0).toArray)] = some (arrOf (sortsL [] [] four four four b1 b2 b3 b4)) := by kernel_rfl

theorem wpList_build_to {P : Program} {ops : Array Oper} {rest : List Oper} {o : Oper} {a : Act} {w : World} {Q : Exit → Act → World → Prop} (hg : o.guard = none) (t : TypeId) (parts : Array (Nat × Operand)) (ho : o.op = .build t parts) {cells : Array Value} {l : List (Nat × Value)}
    (hc : P.built t l = some cells) (hp : (parts.toList.map fun (i, x) => (i, a.eval x)) = l) (h : wpList P ops Q rest (a.put o.dst (.agg cells)) w) : wpList P ops Q (o :: rest) a w := by
  have e : (parts.map fun (i, x) => (i, a.eval x)).toList = parts.toList.map fun (i, x) => (i, a.eval x) := Array.toList_map
  exact wpList_build hg t parts ho (by rw [e, hp, hc]; rfl) (by rw [e, hp, hc]; exact h)
theorem heap_alloc_at (W : World) (o : Obj) {g : Nat} (h : g = W.heap.size) : (W.alloc o).heap[g]? = some o := by subst h; exact heap_alloc_new W o
theorem sidesC (a b : ByteArray) (w : World) (ha : a.size ≤ 1000) (hb : b.size ≤ 1000) :
    Calls Tryz.prog 181 #[.string a, .string b] w fun e w' => e = .returned (.agg #[.string (a ++ { data := #[45, 116, 111, 112] } ++ b), .string (a ++ { data := #[45, 114, 105, 103, 104, 116] } ++ b), .string (a ++ { data := #[45, 98, 111, 116, 116, 111, 109] } ++ b), .string (a ++ { data := #[45, 108, 101, 102, 116] } ++ b)]) ∧ Below w.heap.size w w' := by
  go_enter Tryz.func181, Tryz.ntmps181
  go_wp2
  exact bodyPost_ret (v := .agg #[.string (a ++ { data := #[45, 116, 111, 112] } ++ b), .string (a ++ { data := #[45, 114, 105, 103, 104, 116] } ++ b), .string (a ++ { data := #[45, 98, 111, 116, 116, 111, 109] } ++ b), .string (a ++ { data := #[45, 108, 101, 102, 116] } ++ b)]) (by simp [results, Tryz.results181, go_sem]) rfl ⟨rfl, (Below.refl _ _).alloc (Nat.le_refl _) _⟩

theorem size_arrOf0 (b1 b2 b3 b4 : Nat) : (arrOf (sortsL [] [] four four four b1 b2 b3 b4)).size = 270 := by kernel_rfl
theorem all_arrOf0 (b1 b2 b3 b4 : Nat) : (arrOf (sortsL [] [] four four four b1 b2 b3 b4)).all (·.oneCell') = true := by kernel_rfl
theorem size_z95 : z95.size = 270 := by kernel_rfl
theorem info95 : (Tryz.prog.info? 191).map (·.size) = some 270 := by kernel_rfl
abbrev S0 : Value := .string { data := #[] }
abbrev FF : Value := .bool false
abbrev TT : Value := .bool true
def WordRow' (w : World) (b t : Nat) (l : List (List UInt8)) : Prop := w.heap[b]? = some (.cells (l.map fun s => Value.string ⟨s.toArray⟩).toArray t (0, 0))
/-- the words of the properties that have some -/
structure SortWords (w wc : World) (b1 b2 b3 b4 : Nat) : Prop where
  r1 : WordRow' wc b1 9 [[98, 108, 111, 99, 107], [105, 110, 108, 105, 110, 101], [102, 108, 101, 120], [110, 111, 110, 101]]
  r2 : WordRow' wc b2 9 [[108, 101, 102, 116], [99, 101, 110, 116, 101, 114], [114, 105, 103, 104, 116]]
  r3 : WordRow' wc b3 9 [[114, 111, 119], [99, 111, 108, 117, 109, 110]]
  r4 : WordRow' wc b4 9 [[115, 116, 97, 114, 116], [99, 101, 110, 116, 101, 114], [101, 110, 100], [98, 101, 116, 119, 101, 101, 110]]
  m1 : w.heap.size ≤ b1
  m2 : w.heap.size ≤ b2
  m3 : w.heap.size ≤ b3
  m4 : w.heap.size ≤ b4
def nmMargin : List (List UInt8) := [[109, 97, 114, 103, 105, 110, 45, 116, 111, 112], [109, 97, 114, 103, 105, 110, 45, 114, 105, 103, 104, 116], [109, 97, 114, 103, 105, 110, 45, 98, 111, 116, 116, 111, 109], [109, 97, 114, 103, 105, 110, 45, 108, 101, 102, 116]]
def nmPadding : List (List UInt8) := [[112, 97, 100, 100, 105, 110, 103, 45, 116, 111, 112], [112, 97, 100, 100, 105, 110, 103, 45, 114, 105, 103, 104, 116], [112, 97, 100, 100, 105, 110, 103, 45, 98, 111, 116, 116, 111, 109], [112, 97, 100, 100, 105, 110, 103, 45, 108, 101, 102, 116]]
def nmBorder : List (List UInt8) := [[98, 111, 114, 100, 101, 114, 45, 116, 111, 112, 45, 119, 105, 100, 116, 104], [98, 111, 114, 100, 101, 114, 45, 114, 105, 103, 104, 116, 45, 119, 105, 100, 116, 104], [98, 111, 114, 100, 101, 114, 45, 98, 111, 116, 116, 111, 109, 45, 119, 105, 100, 116, 104], [98, 111, 114, 100, 101, 114, 45, 108, 101, 102, 116, 45, 119, 105, 100, 116, 104]]
theorem sides_margin (w : World) : Calls Tryz.prog 181 #[.string { data := #[109, 97, 114, 103, 105, 110] }, .string { data := #[] }] w fun e w' => e = .returned (.agg #[.string { data := #[109, 97, 114, 103, 105, 110, 45, 116, 111, 112] }, .string { data := #[109, 97, 114, 103, 105, 110, 45, 114, 105, 103, 104, 116] }, .string { data := #[109, 97, 114, 103, 105, 110, 45, 98, 111, 116, 116, 111, 109] }, .string { data := #[109, 97, 114, 103, 105, 110, 45, 108, 101, 102, 116] }]) ∧ Below w.heap.size w w' := by
  refine (sidesC _ _ w (by decide) (by decide)).mono ?_
  rintro e w' ⟨rfl, hb⟩
  exact ⟨by kernel_rfl, hb⟩
theorem sides_padding (w : World) : Calls Tryz.prog 181 #[.string { data := #[112, 97, 100, 100, 105, 110, 103] }, .string { data := #[] }] w fun e w' => e = .returned (.agg #[.string { data := #[112, 97, 100, 100, 105, 110, 103, 45, 116, 111, 112] }, .string { data := #[112, 97, 100, 100, 105, 110, 103, 45, 114, 105, 103, 104, 116] }, .string { data := #[112, 97, 100, 100, 105, 110, 103, 45, 98, 111, 116, 116, 111, 109] }, .string { data := #[112, 97, 100, 100, 105, 110, 103, 45, 108, 101, 102, 116] }]) ∧ Below w.heap.size w w' := by
  refine (sidesC _ _ w (by decide) (by decide)).mono ?_
  rintro e w' ⟨rfl, hb⟩
  exact ⟨by kernel_rfl, hb⟩
theorem sides_border (w : World) : Calls Tryz.prog 181 #[.string { data := #[98, 111, 114, 100, 101, 114] }, .string { data := #[45, 119, 105, 100, 116, 104] }] w fun e w' => e = .returned (.agg #[.string { data := #[98, 111, 114, 100, 101, 114, 45, 116, 111, 112, 45, 119, 105, 100, 116, 104] }, .string { data := #[98, 111, 114, 100, 101, 114, 45, 114, 105, 103, 104, 116, 45, 119, 105, 100, 116, 104] }, .string { data := #[98, 111, 114, 100, 101, 114, 45, 98, 111, 116, 116, 111, 109, 45, 119, 105, 100, 116, 104] }, .string { data := #[98, 111, 114, 100, 101, 114, 45, 108, 101, 102, 116, 45, 119, 105, 100, 116, 104] }]) ∧ Below w.heap.size w w' := by
  refine (sidesC _ _ w (by decide) (by decide)).mono ?_
  rintro e w' ⟨rfl, hb⟩
  exact ⟨by kernel_rfl, hb⟩

def sideS (a b : Bool) (nm : List (List UInt8)) : List (List Value) := nm.map fun s => srt s a true false b false false nilS 2 0
def upto (k : Nat) (l : List (List Value)) : List (List Value) := l.take k ++ four.drop k
/-- the table, behind k rounds -/
def SA (k : Nat) (b1 b2 b3 b4 : Nat) : Array Value := arrOf (sortsL [119, 105, 100, 116, 104] [104, 101, 105, 103, 104, 116] (upto k (sideS true true nmMargin)) (upto k (sideS false false nmPadding)) (upto k (sideS false false nmBorder)) b1 b2 b3 b4)
structure SortsMid2 (w wc : World) (g0 g1 g4 g5 g6 g7 : Nat) (tab : Array Value) (b1 b2 b3 b4 : Nat) : Prop where
  h0 : wc.heap[g0]? = some (.cells z95 191 (0, 0))
  h1 : wc.heap[g1]? = some (.cells #[.int .i64 2, .int .i64 0] 109 (0, 0))
  h4 : wc.heap[g4]? = some (.cells tab 191 (0, 0))
  h5 : WordRow' wc g5 74 nmMargin
  h6 : WordRow' wc g6 74 nmPadding
  h7 : WordRow' wc g7 74 nmBorder
  n0 : w.heap.size ≤ g0
  n4 : w.heap.size ≤ g4
  e04 : g0 ≠ g4
  e14 : g1 ≠ g4
  e54 : g5 ≠ g4
  e64 : g6 ≠ g4
  e74 : g7 ≠ g4
  q : b1 ≠ g0 ∧ b2 ≠ g0 ∧ b3 ≠ g0 ∧ b4 ≠ g0
  words : SortWords w wc b1 b2 b3 b4
  below : Below w.heap.size w wc
structure SortsMid (w wc : World) (g0 g1 g4 b1 b2 b3 b4 : Nat) : Prop where
  h0 : wc.heap[g0]? = some (.cells z95 191 (0, 0))
  h1 : wc.heap[g1]? = some (.cells #[.int .i64 2, .int .i64 0] 109 (0, 0))
  h4 : wc.heap[g4]? = some (.cells (arrOf (sortsL [] [] four four four b1 b2 b3 b4)) 191 (0, 0))
  n1 : w.heap.size ≤ g0
  n2 : g0 < g1
  n3 : g1 < g4
  words : SortWords w wc b1 b2 b3 b4
  o1 : b1 < g4
  o2 : b2 < g4
  o3 : b3 < g4
  o4 : b4 < g4
  q : b1 ≠ g0 ∧ b2 ≠ g0 ∧ b3 ≠ g0 ∧ b4 ≠ g0
  below : Below w.heap.size w wc
def set10 (cur : Array Value) (o : Nat) (v0 v1 v2 v3 v4 v5 v6 v7 v8 v9 : Value) : Array Value :=
  (((((((((cur.setIfInBounds o v0).setIfInBounds (o + 1) v1).setIfInBounds (o + 2) v2).setIfInBounds (o + 3) v3).setIfInBounds (o + 4) v4).setIfInBounds (o + 5) v5).setIfInBounds (o + 6) v6).setIfInBounds (o + 7) v7).setIfInBounds (o + 8) v8).setIfInBounds (o + 9) v9
theorem size_set10 (cur : Array Value) (o : Nat) (v0 v1 v2 v3 v4 v5 v6 v7 v8 v9 : Value) : (set10 cur o v0 v1 v2 v3 v4 v5 v6 v7 v8 v9).size = cur.size := by simp [set10]
def put10 (W : World) (g o : Nat) (v0 v1 v2 v3 v4 v5 v6 v7 v8 v9 : Value) : World :=
  ((((((((((W.setCell ⟨g, o, none⟩ v0).setCell ⟨g, o + 1, none⟩ v1).setCell ⟨g, o + 2, none⟩ v2).setCell ⟨g, o + 3, none⟩ v3).setCell ⟨g, o + 4, none⟩ v4).setCell ⟨g, o + 5, none⟩ v5).setCell ⟨g, o + 6, none⟩ v6).setCell ⟨g, o + 7, none⟩ v7).setCell ⟨g, o + 8, none⟩ v8).setCell ⟨g, o + 9, none⟩ v9).drew
theorem put10_row {W : World} {g : Nat} {cur : Array Value} {t : TypeId} (h : W.heap[g]? = some (.cells cur t (0, 0))) (o : Nat) (v0 v1 v2 v3 v4 v5 v6 v7 v8 v9 : Value) :
    (put10 W g o v0 v1 v2 v3 v4 v5 v6 v7 v8 v9).heap[g]? = some (.cells (set10 cur o v0 v1 v2 v3 v4 v5 v6 v7 v8 v9) t (0, 0)) := by
  unfold put10 set10
  rw [heap_drew]
  iterate 10 apply heap_setCell_same
  exact h
theorem put10_other (W : World) (g o : Nat) (v0 v1 v2 v3 v4 v5 v6 v7 v8 v9 : Value) (i : Nat) (hi : i ≠ g) : (put10 W g o v0 v1 v2 v3 v4 v5 v6 v7 v8 v9).heap[i]? = W.heap[i]? := by
  unfold put10
  rw [heap_drew]
  iterate 10 rw [heap_setCell_other _ _ _ _ hi]
theorem put10_below {B : Nat} {w W : World} (h : Below B w W) (g o : Nat) (hg : B ≤ g) (v0 v1 v2 v3 v4 v5 v6 v7 v8 v9 : Value) : Below B w (put10 W g o v0 v1 v2 v3 v4 v5 v6 v7 v8 v9) :=
  ((((((((((h.setCell (by exact hg) _).setCell (by exact hg) _).setCell (by exact hg) _).setCell (by exact hg) _).setCell (by exact hg) _).setCell (by exact hg) _).setCell (by exact hg) _).setCell (by exact hg) _).setCell (by exact hg) _).setCell (by exact hg) _).drew
theorem SortsMid2.put {w W : World} {g0 g1 g4 g5 g6 g7 : Nat} {tab : Array Value} {b1 b2 b3 b4 : Nat} (h : SortsMid2 w W g0 g1 g4 g5 g6 g7 tab b1 b2 b3 b4) (hw : b1 ≠ g4 ∧ b2 ≠ g4 ∧ b3 ≠ g4 ∧ b4 ≠ g4) (o : Nat) (v0 v1 v2 v3 v4 v5 v6 v7 v8 v9 : Value) :
    SortsMid2 w (put10 W g4 o v0 v1 v2 v3 v4 v5 v6 v7 v8 v9) g0 g1 g4 g5 g6 g7 (set10 tab o v0 v1 v2 v3 v4 v5 v6 v7 v8 v9) b1 b2 b3 b4 where
  h0 := (put10_other W g4 o v0 v1 v2 v3 v4 v5 v6 v7 v8 v9 g0 h.e04).trans h.h0
  h1 := (put10_other W g4 o v0 v1 v2 v3 v4 v5 v6 v7 v8 v9 g1 h.e14).trans h.h1
  h4 := put10_row h.h4 o v0 v1 v2 v3 v4 v5 v6 v7 v8 v9
  h5 := (put10_other W g4 o v0 v1 v2 v3 v4 v5 v6 v7 v8 v9 g5 h.e54).trans h.h5
  h6 := (put10_other W g4 o v0 v1 v2 v3 v4 v5 v6 v7 v8 v9 g6 h.e64).trans h.h6
  h7 := (put10_other W g4 o v0 v1 v2 v3 v4 v5 v6 v7 v8 v9 g7 h.e74).trans h.h7
  n0 := h.n0
  n4 := h.n4
  e04 := h.e04
  e14 := h.e14
  e54 := h.e54
  e64 := h.e64
  e74 := h.e74
  q := h.q
  words := ⟨(put10_other W g4 o v0 v1 v2 v3 v4 v5 v6 v7 v8 v9 b1 hw.1).trans h.words.r1, (put10_other W g4 o v0 v1 v2 v3 v4 v5 v6 v7 v8 v9 b2 hw.2.1).trans h.words.r2, (put10_other W g4 o v0 v1 v2 v3 v4 v5 v6 v7 v8 v9 b3 hw.2.2.1).trans h.words.r3, (put10_other W g4 o v0 v1 v2 v3 v4 v5 v6 v7 v8 v9 b4 hw.2.2.2).trans h.words.r4, h.words.m1, h.words.m2, h.words.m3, h.words.m4⟩
  below := put10_below h.below g4 o h.n4 v0 v1 v2 v3 v4 v5 v6 v7 v8 v9
theorem cell_ex {W : World} {g : Nat} {cur : Array Value} {t : TypeId} (h : W.heap[g]? = some (.cells cur t (0, 0))) (o : Nat) (ho : o < cur.size) : ∃ v, W.cell? ⟨g, o, none⟩ = some v :=
  ⟨cur[o], by rw [cell_of_row W g o cur t _ h, Array.getElem?_eq_getElem ho]⟩
theorem size_SA (k b1 b2 b3 b4 : Nat) (hk : k ≤ 4) : (SA k b1 b2 b3 b4).size = 270 := by
  obtain rfl | rfl | rfl | rfl | rfl : k = 0 ∨ k = 1 ∨ k = 2 ∨ k = 3 ∨ k = 4 := by omega
  all_goals kernel_rfl
theorem all_SA4 (b1 b2 b3 b4 : Nat) : (SA 4 b1 b2 b3 b4).all (·.oneCell') = true := by kernel_rfl
theorem SortWords.setRow {w W : World} {b1 b2 b3 b4 g : Nat} (h : SortWords w W b1 b2 b3 b4) (q : b1 ≠ g ∧ b2 ≠ g ∧ b3 ≠ g ∧ b4 ≠ g) (cs : Array Value) : SortWords w (W.setRow g cs) b1 b2 b3 b4 :=
  ⟨(setRow_other W g b1 cs q.1).trans h.r1, (setRow_other W g b2 cs q.2.1).trans h.r2, (setRow_other W g b3 cs q.2.2.1).trans h.r3, (setRow_other W g b4 cs q.2.2.2).trans h.r4, h.m1, h.m2, h.m3, h.m4⟩
theorem below_setRow {B : Nat} {w W : World} (h : Below B w W) (g : Nat) (cs : Array Value) (hg : B ≤ g) : Below B w (W.setRow g cs) :=
  ⟨h.os, h.tape, h.output, by rw [setRow_size]; exact h.size, fun i hi => (setRow_other W g i cs (by omega)).trans (h.block i hi)⟩
def nmAt (l : List (List UInt8)) (k : Nat) : ByteArray := ⟨(l.getD k []).toArray⟩
theorem wordAt {W : World} {g t : Nat} {l : List (List UInt8)} (h : WordRow' W g t l) (k : Nat) (hk : k < l.length) : W.cell? ⟨g, k, none⟩ = some (.string (nmAt l k)) := by
  rw [cell_of_row W g k _ _ _ h]
  simp [nmAt, List.getD, hk]
theorem SA_step (k b1 b2 b3 b4 : Nat) (hk : k < 4) :
    set10 (set10 (set10 (SA k b1 b2 b3 b4) ((4 + k) * 10) (.string (nmAt nmMargin k)) TT TT FF TT FF FF (.slice none 0 0) (.int .i64 2) (.int .i64 0)) ((8 + k) * 10) (.string (nmAt nmPadding k)) FF TT FF FF FF FF (.slice none 0 0) (.int .i64 2) (.int .i64 0)) ((12 + k) * 10) (.string (nmAt nmBorder k)) FF TT FF FF FF FF (.slice none 0 0) (.int .i64 2) (.int .i64 0) = SA (k + 1) b1 b2 b3 b4 := by
  obtain rfl | rfl | rfl | rfl : k = 0 ∨ k = 1 ∨ k = 2 ∨ k = 3 := by omega
  all_goals kernel_rfl
theorem alloc_get (w : World) (o : Obj) (i : Nat) : (w.alloc o).heap[i]? = if i = w.heap.size then some o else w.heap[i]? := Array.getElem?_push
theorem alloc_size (w : World) (o : Obj) : (w.alloc o).heap.size = w.heap.size + 1 := Array.size_push _
set_option maxHeartbeats 4000000 in
theorem sortsMid_new (w : World) : SortsMid w ((((((((((w.alloc (Obj.cells z95 191)).alloc (Obj.cells #[.int .i64 2, .int .i64 0] 109)).alloc (Obj.cells #[.string { data := #[] }, .bool true, .bool true, .bool true, .bool false, .bool false, .bool false, .slice none 0 0, .int .i64 1, .int .i64 0] 163)).alloc (Obj.cells #[.int .i64 6, .int .i64 64] 109)).alloc
    (Obj.cells #[.string { data := #[98, 108, 111, 99, 107] }, .string { data := #[105, 110, 108, 105, 110, 101] }, .string { data := #[102, 108, 101, 120] }, .string { data := #[110, 111, 110, 101] }] 9)).alloc (Obj.cells #[.string { data := #[108, 101, 102, 116] }, .string { data := #[99, 101, 110, 116, 101, 114] }, .string { data := #[114, 105, 103, 104, 116] }] 9)).alloc (Obj.cells #[.string { data := #[114, 111, 119] }, .string { data := #[99, 111, 108, 117, 109, 110] }] 9)).alloc (Obj.cells #[.string { data := #[115, 116, 97, 114, 116] }, .string { data := #[99, 101, 110, 116, 101, 114] }, .string { data := #[101, 110, 100] }, .string { data := #[98, 101, 116, 119, 101, 101, 110] }] 9)).alloc (Obj.cells z95 191)).setRow (w.heap.size + 1 + 1 + 1 + 1 + 1 + 1 + 1 + 1) (arrOf (sortsL [] [] four four four (w.heap.size + 1 + 1 + 1 + 1) (w.heap.size + 1 + 1 + 1 + 1 + 1) (w.heap.size + 1 + 1 + 1 + 1 + 1 + 1) (w.heap.size + 1 + 1 + 1 + 1 + 1 + 1 + 1))))
    w.heap.size (w.heap.size + 1) (w.heap.size + 1 + 1 + 1 + 1 + 1 + 1 + 1 + 1) (w.heap.size + 1 + 1 + 1 + 1) (w.heap.size + 1 + 1 + 1 + 1 + 1) (w.heap.size + 1 + 1 + 1 + 1 + 1 + 1) (w.heap.size + 1 + 1 + 1 + 1 + 1 + 1 + 1) where
  h0 := by rw [setRow_other _ _ _ _ (by omega)]; simp only [alloc_get, alloc_size]; (repeat' (first | omega | (exact absurd trivial (by assumption)) | split | rfl))
  h1 := by rw [setRow_other _ _ _ _ (by omega)]; simp only [alloc_get, alloc_size]; (repeat' (first | omega | (exact absurd trivial (by assumption)) | split | rfl))
  h4 := setRow_heap _ _ z95 _ 191 (0, 0) (by simp only [alloc_get, alloc_size]; (repeat' (first | omega | (exact absurd trivial (by assumption)) | split | rfl)))
  n1 := Nat.le_refl _
  n2 := by omega
  n3 := by omega
  words := ⟨by unfold WordRow'; rw [setRow_other _ _ _ _ (by omega)]; simp only [alloc_get, alloc_size]; (repeat' (first | omega | (exact absurd trivial (by assumption)) | split | rfl)),
    by unfold WordRow'; rw [setRow_other _ _ _ _ (by omega)]; simp only [alloc_get, alloc_size]; (repeat' (first | omega | (exact absurd trivial (by assumption)) | split | rfl)),
    by unfold WordRow'; rw [setRow_other _ _ _ _ (by omega)]; simp only [alloc_get, alloc_size]; (repeat' (first | omega | (exact absurd trivial (by assumption)) | split | rfl)),
    by unfold WordRow'; rw [setRow_other _ _ _ _ (by omega)]; simp only [alloc_get, alloc_size]; (repeat' (first | omega | (exact absurd trivial (by assumption)) | split | rfl)),
    by omega, by omega, by omega, by omega⟩
  o1 := by omega
  o2 := by omega
  o3 := by omega
  o4 := by omega
  q := by omega
  below := by
    refine below_setRow ?_ _ _ (by omega)
    iterate 9 refine Below.alloc ?_ (by first | (simp only [alloc_size]; omega) | omega) _
    exact Below.refl _ _
theorem lt_get {w : World} {i : Nat} {o : Obj} (h : w.heap[i]? = some o) : i < w.heap.size := (Array.getElem?_eq_some_iff.1 h).1
theorem setc_size (W : World) (a : Addr) (v : Value) : (W.setCell a v).heap.size = W.heap.size := by simp
theorem SA0_eq (b1 b2 b3 b4 : Nat) : ((arrOf (sortsL [] [] four four four b1 b2 b3 b4)).setIfInBounds 20 (.string { data := #[119, 105, 100, 116, 104] })).setIfInBounds 30 (.string { data := #[104, 101, 105, 103, 104, 116] }) = SA 0 b1 b2 b3 b4 := by kernel_rfl
set_option maxHeartbeats 4000000 in
theorem sortsMid2_new {w wc w1 w2 w3 : World} {g0 g1 g4 b1 b2 b3 b4 : Nat} (hm : SortsMid w wc g0 g1 g4 b1 b2 b3 b4)
    (hb1 : Below ((wc.setCell ⟨g4, 20, none⟩ (.string { data := #[119, 105, 100, 116, 104] })).setCell ⟨g4, 30, none⟩ (.string { data := #[104, 101, 105, 103, 104, 116] })).heap.size ((wc.setCell ⟨g4, 20, none⟩ (.string { data := #[119, 105, 100, 116, 104] })).setCell ⟨g4, 30, none⟩ (.string { data := #[104, 101, 105, 103, 104, 116] })) w1)
    (hb2 : Below w1.heap.size w1 w2) (hb3 : Below w2.heap.size w2 w3) :
    SortsMid2 w (((w3.alloc (Obj.cells #[.string { data := #[109, 97, 114, 103, 105, 110, 45, 116, 111, 112] }, .string { data := #[109, 97, 114, 103, 105, 110, 45, 114, 105, 103, 104, 116] }, .string { data := #[109, 97, 114, 103, 105, 110, 45, 98, 111, 116, 116, 111, 109] }, .string { data := #[109, 97, 114, 103, 105, 110, 45, 108, 101, 102, 116] }] 74)).alloc (Obj.cells #[.string { data := #[112, 97, 100, 100, 105, 110, 103, 45, 116, 111, 112] }, .string { data := #[112, 97, 100, 100, 105, 110, 103, 45, 114, 105, 103, 104, 116] }, .string { data := #[112, 97, 100, 100, 105, 110, 103, 45, 98, 111, 116, 116, 111, 109] }, .string { data := #[112, 97, 100, 100, 105, 110, 103, 45, 108, 101, 102, 116] }] 74)).alloc (Obj.cells #[.string { data := #[98, 111, 114, 100, 101, 114, 45, 116, 111, 112, 45, 119, 105, 100, 116, 104] }, .string { data := #[98, 111, 114, 100, 101, 114, 45, 114, 105, 103, 104, 116, 45, 119, 105, 100, 116, 104] }, .string { data := #[98, 111, 114, 100, 101, 114, 45, 98, 111, 116, 116, 111, 109, 45, 119, 105, 100, 116, 104] }, .string { data := #[98, 111, 114, 100, 101, 114, 45, 108, 101, 102, 116, 45, 119, 105, 100, 116, 104] }] 74)) g0 g1 g4 w3.heap.size (w3.heap.size + 1) (w3.heap.size + 1 + 1) (SA 0 b1 b2 b3 b4) b1 b2 b3 b4 := by
  have s1 := hb1.size
  rw [setc_size, setc_size] at s1
  have s2 := hb2.size
  have s3 := hb3.size
  have key : ∀ i, i < wc.heap.size → (((w3.alloc (Obj.cells #[.string { data := #[109, 97, 114, 103, 105, 110, 45, 116, 111, 112] }, .string { data := #[109, 97, 114, 103, 105, 110, 45, 114, 105, 103, 104, 116] }, .string { data := #[109, 97, 114, 103, 105, 110, 45, 98, 111, 116, 116, 111, 109] }, .string { data := #[109, 97, 114, 103, 105, 110, 45, 108, 101, 102, 116] }] 74)).alloc (Obj.cells #[.string { data := #[112, 97, 100, 100, 105, 110, 103, 45, 116, 111, 112] }, .string { data := #[112, 97, 100, 100, 105, 110, 103, 45, 114, 105, 103, 104, 116] }, .string { data := #[112, 97, 100, 100, 105, 110, 103, 45, 98, 111, 116, 116, 111, 109] }, .string { data := #[112, 97, 100, 100, 105, 110, 103, 45, 108, 101, 102, 116] }] 74)).alloc (Obj.cells #[.string { data := #[98, 111, 114, 100, 101, 114, 45, 116, 111, 112, 45, 119, 105, 100, 116, 104] }, .string { data := #[98, 111, 114, 100, 101, 114, 45, 114, 105, 103, 104, 116, 45, 119, 105, 100, 116, 104] }, .string { data := #[98, 111, 114, 100, 101, 114, 45, 98, 111, 116, 116, 111, 109, 45, 119, 105, 100, 116, 104] }, .string { data := #[98, 111, 114, 100, 101, 114, 45, 108, 101, 102, 116, 45, 119, 105, 100, 116, 104] }] 74)).heap[i]? = ((wc.setCell ⟨g4, 20, none⟩ (.string { data := #[119, 105, 100, 116, 104] })).setCell ⟨g4, 30, none⟩ (.string { data := #[104, 101, 105, 103, 104, 116] })).heap[i]? := fun i hi => by
    simp only [alloc_get, alloc_size]
    rw [if_neg (by omega), if_neg (by omega), if_neg (by omega), hb3.block i (by omega), hb2.block i (by omega), hb1.block i (by rw [setc_size, setc_size]; exact hi)]
  have key2 : ∀ i, i < wc.heap.size → i ≠ g4 → (((w3.alloc (Obj.cells #[.string { data := #[109, 97, 114, 103, 105, 110, 45, 116, 111, 112] }, .string { data := #[109, 97, 114, 103, 105, 110, 45, 114, 105, 103, 104, 116] }, .string { data := #[109, 97, 114, 103, 105, 110, 45, 98, 111, 116, 116, 111, 109] }, .string { data := #[109, 97, 114, 103, 105, 110, 45, 108, 101, 102, 116] }] 74)).alloc (Obj.cells #[.string { data := #[112, 97, 100, 100, 105, 110, 103, 45, 116, 111, 112] }, .string { data := #[112, 97, 100, 100, 105, 110, 103, 45, 114, 105, 103, 104, 116] }, .string { data := #[112, 97, 100, 100, 105, 110, 103, 45, 98, 111, 116, 116, 111, 109] }, .string { data := #[112, 97, 100, 100, 105, 110, 103, 45, 108, 101, 102, 116] }] 74)).alloc (Obj.cells #[.string { data := #[98, 111, 114, 100, 101, 114, 45, 116, 111, 112, 45, 119, 105, 100, 116, 104] }, .string { data := #[98, 111, 114, 100, 101, 114, 45, 114, 105, 103, 104, 116, 45, 119, 105, 100, 116, 104] }, .string { data := #[98, 111, 114, 100, 101, 114, 45, 98, 111, 116, 116, 111, 109, 45, 119, 105, 100, 116, 104] }, .string { data := #[98, 111, 114, 100, 101, 114, 45, 108, 101, 102, 116, 45, 119, 105, 100, 116, 104] }] 74)).heap[i]? = wc.heap[i]? := fun i hi hn => by
    rw [key i hi, heap_setCell_other _ _ _ _ hn, heap_setCell_other _ _ _ _ hn]
  have l0 := lt_get hm.h0
  have l1 := lt_get hm.h1
  have l4 := lt_get hm.h4
  have n1 := hm.n1
  have n2 := hm.n2
  have n3 := hm.n3
  have o1 := hm.o1
  have o2 := hm.o2
  have o3 := hm.o3
  have o4 := hm.o4
  have m1 := hm.words.m1
  have m2 := hm.words.m2
  have m3 := hm.words.m3
  have m4 := hm.words.m4
  have q := hm.q
  refine { h0 := (key2 g0 l0 (by omega)).trans hm.h0, h1 := (key2 g1 l1 (by omega)).trans hm.h1, h4 := ?_, h5 := ?_, h6 := ?_, h7 := ?_, n0 := n1, n4 := by omega, e04 := by omega, e14 := by omega, e54 := by omega, e64 := by omega, e74 := by omega, q := q, words := ?_, below := ?_ }
  · rw [key g4 l4, heap_setCell_same _ _ _ _ 191 _ (heap_setCell_same _ _ _ _ 191 _ hm.h4), SA0_eq]
  · unfold WordRow'; simp only [alloc_get, alloc_size]; (repeat' (first | omega | (exact absurd trivial (by assumption)) | split | rfl))
  · unfold WordRow'; simp only [alloc_get, alloc_size]; (repeat' (first | omega | (exact absurd trivial (by assumption)) | split | rfl))
  · unfold WordRow'; simp only [alloc_get, alloc_size]; (repeat' (first | omega | (exact absurd trivial (by assumption)) | split | rfl))
  · exact ⟨(key2 b1 (by omega) (by omega)).trans hm.words.r1, (key2 b2 (by omega) (by omega)).trans hm.words.r2, (key2 b3 (by omega) (by omega)).trans hm.words.r3, (key2 b4 (by omega) (by omega)).trans hm.words.r4, m1, m2, m3, m4⟩
  · have hbs := hm.below.size
    have p1 : Below w.heap.size w ((wc.setCell ⟨g4, 20, none⟩ (.string { data := #[119, 105, 100, 116, 104] })).setCell ⟨g4, 30, none⟩ (.string { data := #[104, 101, 105, 103, 104, 116] })) := (hm.below.setCell (show w.heap.size ≤ g4 by omega) _).setCell (show w.heap.size ≤ g4 by omega) _
    have p2 := p1.trans (hb1.mono (by rw [setc_size, setc_size]; omega))
    have p3 := p2.trans (hb2.mono (by omega))
    have p4 := p3.trans (hb3.mono (by omega))
    refine ((p4.alloc (by omega) _).alloc (by rw [alloc_size]; omega) _).alloc (by rw [alloc_size, alloc_size]; omega) _
end Go.Proofs
set_option linter.unusedVariables false
set_option linter.unusedSimpArgs false
namespace Go.Proofs
open Go.RowKit
set_option maxRecDepth 100000 in
set_option maxHeartbeats 4000000 in
theorem sortsC (w : World) :
    Calls Tryz.prog 147 #[] w fun e w' => ∃ b1 b2 b3 b4, e = .returned (.agg (SA 4 b1 b2 b3 b4)) ∧ SortWords w w' b1 b2 b3 b4 ∧ Below w.heap.size w w' := by
  have hz := zero95
  go_enter Tryz.func147, Tryz.ntmps147
  go_upto_region 4 with (fail)
  go_cut [0, 1, 4] (fun v0 v1 v4 wc => ∃ (g0 g1 g4 b1 b2 b3 b4 : Nat), v0 = .pointer (some ⟨g0, 0, none⟩) ∧ v1 = .pointer (some ⟨g1, 0, none⟩) ∧ v4 = .pointer (some ⟨g4, 0, none⟩) ∧ SortsMid w wc g0 g1 g4 b1 b2 b3 b4)
  case first =>
    go_wp2_with (first
      | (refine wpList_build_to rfl 191 _ rfl (built95 _ _ _ _) rfl ?_)
      | (refine wpList_store_row rfl 191 _ _ rfl _ _ rfl rfl 191 z95 (heap_alloc_at _ _ ?_) (info95.trans (congrArg some (size_arrOf0 _ _ _ _).symm)) (size_z95.trans (size_arrOf0 _ _ _ _).symm) (all_arrOf0 _ _ _ _) ?_; · simp))
    go_frame
    go_meet
    case rel => exact ⟨_, _, _, _, _, _, _, rfl, rfl, rfl, sortsMid_new w⟩
  case rest =>
    obtain ⟨g0, g1, g4, b1, b2, b3, b4, rfl, rfl, rfl, hm⟩ := hcut
    have cc : wc.cell? ⟨g4, 20, none⟩ = some S0 ∧ wc.cell? ⟨g4, 30, none⟩ = some S0 ∧ wc.frozen? ⟨g4, 20, none⟩ = false ∧ wc.frozen? ⟨g4, 30, none⟩ = false :=
      ⟨(cell_of_row wc g4 20 _ _ _ hm.h4).trans (by kernel_rfl), (cell_of_row wc g4 30 _ _ _ hm.h4).trans (by kernel_rfl), frozen_of_row wc g4 20 _ _ hm.h4, frozen_of_row wc g4 30 _ _ hm.h4⟩
    obtain ⟨c40, c41, f40, f41⟩ := cc
    have hwne : b1 ≠ g4 ∧ b2 ≠ g4 ∧ b3 ≠ g4 ∧ b4 ≠ g4 := ⟨by have := hm.o1; omega, by have := hm.o2; omega, by have := hm.o3; omega, by have := hm.o4; omega⟩
    clear hz
    go_upto_region 6 with (fail)
    go_cut [0, 1, 4, 5, 6, 7] (fun v0 v1 v4 v5 v6 v7 wd => ∃ (g5 g6 g7 : Nat), v0 = .pointer (some ⟨g0, 0, none⟩) ∧ v1 = .pointer (some ⟨g1, 0, none⟩) ∧ v4 = .pointer (some ⟨g4, 0, none⟩) ∧ v5 = .pointer (some ⟨g5, 0, none⟩) ∧ v6 = .pointer (some ⟨g6, 0, none⟩) ∧ v7 = .pointer (some ⟨g7, 0, none⟩) ∧ SortsMid2 w wd g0 g1 g4 g5 g6 g7 (SA 0 b1 b2 b3 b4) b1 b2 b3 b4)
    case first =>
      go_wp2_with (first | (go_at_call 181; (with_reducible refine (sides_margin _).mono ?_); rintro e w1 ⟨rfl, hb1⟩) | (go_at_call 181; (with_reducible refine (sides_padding _).mono ?_); rintro e w2 ⟨rfl, hb2⟩) | (go_at_call 181; (with_reducible refine (sides_border _).mono ?_); rintro e w3 ⟨rfl, hb3⟩))
      go_meet
      case rel => exact ⟨_, _, _, rfl, rfl, rfl, rfl, rfl, rfl, sortsMid2_new hm hb1 hb2 hb3⟩
    case rest =>
      obtain ⟨g5, g6, g7, rfl, rfl, rfl, rfl, rfl, rfl, hm2⟩ := hcut
      clear c40 c41 f40 f41 hm
      go_wp2_with fail
      go_loopw [51] (fun i wr => ∃ k : Nat, k ≤ 4 ∧ i = .int .i64 k ∧ SortsMid2 w wr g0 g1 g4 g5 g6 g7 (SA k b1 b2 b3 b4) b1 b2 b3 b4) (fun i _ => 4 - (intOf i).toNat)
      case atStart => exact ⟨0, by omega, rfl, hm2⟩
      case round =>
        obtain ⟨k, hk, rfl, hr⟩ := hrel
        by_cases hlt : k < 4
        · have zA := size_SA k b1 b2 b3 b4 hk
          have HWN := Lib.hid hwne
          clear hwne hm2
          go_upto_region 10 with (fail)
          go_cut [] (fun wx => SortsMid2 w wx g0 g1 g4 g5 g6 g7 (set10 (SA k b1 b2 b3 b4) ((4 + k) * 10) (.string (nmAt nmMargin k)) TT TT FF TT FF FF (.slice none 0 0) (.int .i64 2) (.int .i64 0)) b1 b2 b3 b4)
          case first =>
            have c5 := wordAt hr.h5 k hlt
            have c1 : wr.cell? ⟨g1, 0, none⟩ = some (.int .i64 2) := (cell_of_row wr g1 0 _ _ _ hr.h1).trans rfl
            have c2 : wr.cell? ⟨g1, 1, none⟩ = some (.int .i64 0) := (cell_of_row wr g1 1 _ _ _ hr.h1).trans rfl
            obtain ⟨y4_0, e4_0⟩ := cell_ex hr.h4 ((4 + k) * 10) (by rw [zA]; omega)
            have f4_0 := frozen_of_row wr g4 ((4 + k) * 10) _ _ hr.h4
            obtain ⟨y4_1, e4_1⟩ := cell_ex hr.h4 ((4 + k) * 10 + 1) (by rw [zA]; omega)
            have f4_1 := frozen_of_row wr g4 ((4 + k) * 10 + 1) _ _ hr.h4
            obtain ⟨y4_2, e4_2⟩ := cell_ex hr.h4 ((4 + k) * 10 + 2) (by rw [zA]; omega)
            have f4_2 := frozen_of_row wr g4 ((4 + k) * 10 + 2) _ _ hr.h4
            obtain ⟨y4_3, e4_3⟩ := cell_ex hr.h4 ((4 + k) * 10 + 3) (by rw [zA]; omega)
            have f4_3 := frozen_of_row wr g4 ((4 + k) * 10 + 3) _ _ hr.h4
            obtain ⟨y4_4, e4_4⟩ := cell_ex hr.h4 ((4 + k) * 10 + 4) (by rw [zA]; omega)
            have f4_4 := frozen_of_row wr g4 ((4 + k) * 10 + 4) _ _ hr.h4
            obtain ⟨y4_5, e4_5⟩ := cell_ex hr.h4 ((4 + k) * 10 + 5) (by rw [zA]; omega)
            have f4_5 := frozen_of_row wr g4 ((4 + k) * 10 + 5) _ _ hr.h4
            obtain ⟨y4_6, e4_6⟩ := cell_ex hr.h4 ((4 + k) * 10 + 6) (by rw [zA]; omega)
            have f4_6 := frozen_of_row wr g4 ((4 + k) * 10 + 6) _ _ hr.h4
            obtain ⟨y4_7, e4_7⟩ := cell_ex hr.h4 ((4 + k) * 10 + 7) (by rw [zA]; omega)
            have f4_7 := frozen_of_row wr g4 ((4 + k) * 10 + 7) _ _ hr.h4
            obtain ⟨y4_8, e4_8⟩ := cell_ex hr.h4 ((4 + k) * 10 + 8) (by rw [zA]; omega)
            have f4_8 := frozen_of_row wr g4 ((4 + k) * 10 + 8) _ _ hr.h4
            obtain ⟨y4_9, e4_9⟩ := cell_ex hr.h4 ((4 + k) * 10 + 9) (by rw [zA]; omega)
            have f4_9 := frozen_of_row wr g4 ((4 + k) * 10 + 9) _ _ hr.h4
            clear zA
            go_region
            go_wp2
            go_meet
            case rel => exact hr.put HWN.out _ _ _ _ _ _ _ _ _ _ _
          case rest =>
            have hx := hcut
            have zB : (set10 (SA k b1 b2 b3 b4) ((4 + k) * 10) (.string (nmAt nmMargin k)) TT TT FF TT FF FF (.slice none 0 0) (.int .i64 2) (.int .i64 0)).size = 270 := (size_set10 _ _ _ _ _ _ _ _ _ _ _ _).trans zA
            clear zA
            go_upto_region 11 with (fail)
            go_cut [] (fun wy => SortsMid2 w wy g0 g1 g4 g5 g6 g7 (set10 (set10 (SA k b1 b2 b3 b4) ((4 + k) * 10) (.string (nmAt nmMargin k)) TT TT FF TT FF FF (.slice none 0 0) (.int .i64 2) (.int .i64 0)) ((8 + k) * 10) (.string (nmAt nmPadding k)) FF TT FF FF FF FF (.slice none 0 0) (.int .i64 2) (.int .i64 0)) b1 b2 b3 b4)
            case first =>
              have c5 := wordAt hx.h6 k hlt
              have c1 : wc.cell? ⟨g1, 0, none⟩ = some (.int .i64 2) := (cell_of_row wc g1 0 _ _ _ hx.h1).trans rfl
              have c2 : wc.cell? ⟨g1, 1, none⟩ = some (.int .i64 0) := (cell_of_row wc g1 1 _ _ _ hx.h1).trans rfl
              obtain ⟨y8_0, e8_0⟩ := cell_ex hx.h4 ((8 + k) * 10) (by rw [zB]; omega)
              have f8_0 := frozen_of_row wc g4 ((8 + k) * 10) _ _ hx.h4
              obtain ⟨y8_1, e8_1⟩ := cell_ex hx.h4 ((8 + k) * 10 + 1) (by rw [zB]; omega)
              have f8_1 := frozen_of_row wc g4 ((8 + k) * 10 + 1) _ _ hx.h4
              obtain ⟨y8_2, e8_2⟩ := cell_ex hx.h4 ((8 + k) * 10 + 2) (by rw [zB]; omega)
              have f8_2 := frozen_of_row wc g4 ((8 + k) * 10 + 2) _ _ hx.h4
              obtain ⟨y8_3, e8_3⟩ := cell_ex hx.h4 ((8 + k) * 10 + 3) (by rw [zB]; omega)
              have f8_3 := frozen_of_row wc g4 ((8 + k) * 10 + 3) _ _ hx.h4
              obtain ⟨y8_4, e8_4⟩ := cell_ex hx.h4 ((8 + k) * 10 + 4) (by rw [zB]; omega)
              have f8_4 := frozen_of_row wc g4 ((8 + k) * 10 + 4) _ _ hx.h4
              obtain ⟨y8_5, e8_5⟩ := cell_ex hx.h4 ((8 + k) * 10 + 5) (by rw [zB]; omega)
              have f8_5 := frozen_of_row wc g4 ((8 + k) * 10 + 5) _ _ hx.h4
              obtain ⟨y8_6, e8_6⟩ := cell_ex hx.h4 ((8 + k) * 10 + 6) (by rw [zB]; omega)
              have f8_6 := frozen_of_row wc g4 ((8 + k) * 10 + 6) _ _ hx.h4
              obtain ⟨y8_7, e8_7⟩ := cell_ex hx.h4 ((8 + k) * 10 + 7) (by rw [zB]; omega)
              have f8_7 := frozen_of_row wc g4 ((8 + k) * 10 + 7) _ _ hx.h4
              obtain ⟨y8_8, e8_8⟩ := cell_ex hx.h4 ((8 + k) * 10 + 8) (by rw [zB]; omega)
              have f8_8 := frozen_of_row wc g4 ((8 + k) * 10 + 8) _ _ hx.h4
              obtain ⟨y8_9, e8_9⟩ := cell_ex hx.h4 ((8 + k) * 10 + 9) (by rw [zB]; omega)
              have f8_9 := frozen_of_row wc g4 ((8 + k) * 10 + 9) _ _ hx.h4
              clear zB
              go_region
              go_wp2
              go_meet
              case rel => exact hx.put HWN.out _ _ _ _ _ _ _ _ _ _ _
            case rest =>
              have hy := hcut
              have zC : (set10 (set10 (SA k b1 b2 b3 b4) ((4 + k) * 10) (.string (nmAt nmMargin k)) TT TT FF TT FF FF (.slice none 0 0) (.int .i64 2) (.int .i64 0)) ((8 + k) * 10) (.string (nmAt nmPadding k)) FF TT FF FF FF FF (.slice none 0 0) (.int .i64 2) (.int .i64 0)).size = 270 := (size_set10 _ _ _ _ _ _ _ _ _ _ _ _).trans zB
              clear zB
              go_upto_region 12 with (fail)
              have c5 := wordAt hy.h7 k hlt
              have c1 : wc.cell? ⟨g1, 0, none⟩ = some (.int .i64 2) := (cell_of_row wc g1 0 _ _ _ hy.h1).trans rfl
              have c2 : wc.cell? ⟨g1, 1, none⟩ = some (.int .i64 0) := (cell_of_row wc g1 1 _ _ _ hy.h1).trans rfl
              obtain ⟨y12_0, e12_0⟩ := cell_ex hy.h4 ((12 + k) * 10) (by rw [zC]; omega)
              have f12_0 := frozen_of_row wc g4 ((12 + k) * 10) _ _ hy.h4
              obtain ⟨y12_1, e12_1⟩ := cell_ex hy.h4 ((12 + k) * 10 + 1) (by rw [zC]; omega)
              have f12_1 := frozen_of_row wc g4 ((12 + k) * 10 + 1) _ _ hy.h4
              obtain ⟨y12_2, e12_2⟩ := cell_ex hy.h4 ((12 + k) * 10 + 2) (by rw [zC]; omega)
              have f12_2 := frozen_of_row wc g4 ((12 + k) * 10 + 2) _ _ hy.h4
              obtain ⟨y12_3, e12_3⟩ := cell_ex hy.h4 ((12 + k) * 10 + 3) (by rw [zC]; omega)
              have f12_3 := frozen_of_row wc g4 ((12 + k) * 10 + 3) _ _ hy.h4
              obtain ⟨y12_4, e12_4⟩ := cell_ex hy.h4 ((12 + k) * 10 + 4) (by rw [zC]; omega)
              have f12_4 := frozen_of_row wc g4 ((12 + k) * 10 + 4) _ _ hy.h4
              obtain ⟨y12_5, e12_5⟩ := cell_ex hy.h4 ((12 + k) * 10 + 5) (by rw [zC]; omega)
              have f12_5 := frozen_of_row wc g4 ((12 + k) * 10 + 5) _ _ hy.h4
              obtain ⟨y12_6, e12_6⟩ := cell_ex hy.h4 ((12 + k) * 10 + 6) (by rw [zC]; omega)
              have f12_6 := frozen_of_row wc g4 ((12 + k) * 10 + 6) _ _ hy.h4
              obtain ⟨y12_7, e12_7⟩ := cell_ex hy.h4 ((12 + k) * 10 + 7) (by rw [zC]; omega)
              have f12_7 := frozen_of_row wc g4 ((12 + k) * 10 + 7) _ _ hy.h4
              obtain ⟨y12_8, e12_8⟩ := cell_ex hy.h4 ((12 + k) * 10 + 8) (by rw [zC]; omega)
              have f12_8 := frozen_of_row wc g4 ((12 + k) * 10 + 8) _ _ hy.h4
              obtain ⟨y12_9, e12_9⟩ := cell_ex hy.h4 ((12 + k) * 10 + 9) (by rw [zC]; omega)
              have f12_9 := frozen_of_row wc g4 ((12 + k) * 10 + 9) _ _ hy.h4
              have HY := Lib.hid hy
              clear hy hx hr hcut zC
              go_region
              go_wp2
              go_roundw
              case rel =>
                have hz := HY.out.put HWN.out ((12 + k) * 10) (.string (nmAt nmBorder k)) FF TT FF FF FF FF (.slice none 0 0) (.int .i64 2) (.int .i64 0)
                rw [SA_step k b1 b2 b3 b4 hlt] at hz
                exact ⟨k + 1, by omega, by go_num, hz⟩
              case measure => simp [intOf]; omega
        · obtain rfl : k = 4 := by omega
          clear hm2
          go_wp2_with (first | (refine wpList_load_row rfl 191 _ rfl g4 rfl 191 _ _ _ hr.h4 Tryz.underlying191 rfl (info95.trans (congrArg some (size_SA 4 b1 b2 b3 b4 (Nat.le_refl 4)).symm)) ?_) | (refine wpList_store_row rfl 191 _ _ rfl g0 (SA 4 b1 b2 b3 b4) rfl rfl 191 z95 hr.h0 (info95.trans (congrArg some (size_SA 4 b1 b2 b3 b4 (Nat.le_refl 4)).symm)) (size_z95.trans (size_SA 4 b1 b2 b3 b4 (Nat.le_refl 4)).symm) (all_SA4 b1 b2 b3 b4) ?_))
          refine bodyPost_ret (v := .agg (SA 4 b1 b2 b3 b4)) (results_cell_row Tryz.results147 _ _ g0 191 _ _ _ rfl (setRow_heap wr g0 z95 _ 191 _ hr.h0) Tryz.underlying191 rfl (info95.trans (congrArg some (size_SA 4 b1 b2 b3 b4 (Nat.le_refl 4)).symm))) rfl ?_
          exact ⟨b1, b2, b3, b4, rfl, hr.words.setRow hr.q _, below_setRow hr.below g0 _ hr.n0⟩
end Go.Proofs
set_option linter.unusedVariables false
set_option linter.unusedSimpArgs false
namespace Go.Proofs
open Go.RowKit
/-- What a property's values are. -/
structure SortRec where
  name : ByteArray
  auto : Bool
  length : Bool
  part : Bool
  below : Bool
  color : Bool
  number : Bool
  wa : Option Addr
  wn : Nat
  k : Int
  n : Int
def recs (b1 b2 b3 b4 : Nat) : List SortRec := [⟨{ data := #[] }, false, false, false, false, false, false, none, 0, 0, 0⟩,
  ⟨{ data := #[100, 105, 115, 112, 108, 97, 121] }, false, false, false, false, false, false, some ⟨b1, 0, none⟩, 4, 5, 1⟩,
  ⟨{ data := #[119, 105, 100, 116, 104] }, true, true, true, false, false, false, none, 0, 1, 0⟩,
  ⟨{ data := #[104, 101, 105, 103, 104, 116] }, true, true, true, false, false, false, none, 0, 1, 0⟩,
  ⟨{ data := #[109, 97, 114, 103, 105, 110, 45, 116, 111, 112] }, true, true, false, true, false, false, none, 0, 2, 0⟩,
  ⟨{ data := #[109, 97, 114, 103, 105, 110, 45, 114, 105, 103, 104, 116] }, true, true, false, true, false, false, none, 0, 2, 0⟩,
  ⟨{ data := #[109, 97, 114, 103, 105, 110, 45, 98, 111, 116, 116, 111, 109] }, true, true, false, true, false, false, none, 0, 2, 0⟩,
  ⟨{ data := #[109, 97, 114, 103, 105, 110, 45, 108, 101, 102, 116] }, true, true, false, true, false, false, none, 0, 2, 0⟩,
  ⟨{ data := #[112, 97, 100, 100, 105, 110, 103, 45, 116, 111, 112] }, false, true, false, false, false, false, none, 0, 2, 0⟩,
  ⟨{ data := #[112, 97, 100, 100, 105, 110, 103, 45, 114, 105, 103, 104, 116] }, false, true, false, false, false, false, none, 0, 2, 0⟩,
  ⟨{ data := #[112, 97, 100, 100, 105, 110, 103, 45, 98, 111, 116, 116, 111, 109] }, false, true, false, false, false, false, none, 0, 2, 0⟩,
  ⟨{ data := #[112, 97, 100, 100, 105, 110, 103, 45, 108, 101, 102, 116] }, false, true, false, false, false, false, none, 0, 2, 0⟩,
  ⟨{ data := #[98, 111, 114, 100, 101, 114, 45, 116, 111, 112, 45, 119, 105, 100, 116, 104] }, false, true, false, false, false, false, none, 0, 2, 0⟩,
  ⟨{ data := #[98, 111, 114, 100, 101, 114, 45, 114, 105, 103, 104, 116, 45, 119, 105, 100, 116, 104] }, false, true, false, false, false, false, none, 0, 2, 0⟩,
  ⟨{ data := #[98, 111, 114, 100, 101, 114, 45, 98, 111, 116, 116, 111, 109, 45, 119, 105, 100, 116, 104] }, false, true, false, false, false, false, none, 0, 2, 0⟩,
  ⟨{ data := #[98, 111, 114, 100, 101, 114, 45, 108, 101, 102, 116, 45, 119, 105, 100, 116, 104] }, false, true, false, false, false, false, none, 0, 2, 0⟩,
  ⟨{ data := #[99, 111, 108, 111, 114] }, false, false, false, false, true, false, none, 0, 4, 0⟩,
  ⟨{ data := #[98, 97, 99, 107, 103, 114, 111, 117, 110, 100, 45, 99, 111, 108, 111, 114] }, false, false, false, false, true, false, none, 0, 4, 16777215⟩,
  ⟨{ data := #[102, 111, 110, 116, 45, 115, 105, 122, 101] }, false, true, false, false, false, false, none, 0, 2, 1024⟩,
  ⟨{ data := #[116, 101, 120, 116, 45, 97, 108, 105, 103, 110] }, false, false, false, false, false, false, some ⟨b2, 0, none⟩, 3, 5, 0⟩,
  ⟨{ data := #[102, 108, 101, 120, 45, 103, 114, 111, 119] }, false, false, false, false, false, true, none, 0, 6, 0⟩,
  ⟨{ data := #[102, 108, 101, 120, 45, 115, 104, 114, 105, 110, 107] }, false, false, false, false, false, true, none, 0, 6, 64⟩,
  ⟨{ data := #[102, 108, 101, 120, 45, 100, 105, 114, 101, 99, 116, 105, 111, 110] }, false, false, false, false, false, false, some ⟨b3, 0, none⟩, 2, 5, 0⟩,
  ⟨{ data := #[106, 117, 115, 116, 105, 102, 121, 45, 99, 111, 110, 116, 101, 110, 116] }, false, false, false, false, false, false, some ⟨b4, 0, none⟩, 4, 5, 0⟩,
  ⟨{ data := #[111, 114, 100, 101, 114] }, false, false, false, true, false, true, none, 0, 6, 0⟩,
  ⟨{ data := #[108, 101, 102, 116] }, false, true, false, true, false, false, none, 0, 2, 0⟩,
  ⟨{ data := #[116, 111, 112] }, false, true, false, true, false, false, none, 0, 2, 0⟩]
def recOf (p b1 b2 b3 b4 : Nat) : SortRec := (recs b1 b2 b3 b4).getD p ⟨{ data := #[] }, false, false, false, false, false, false, none, 0, 0, 0⟩
abbrev recV (r : SortRec) : Value := .agg #[.string r.name, .bool r.auto, .bool r.length, .bool r.part, .bool r.below, .bool r.color, .bool r.number, .slice r.wa r.wn r.wn, .int .i64 r.k, .int .i64 r.n]
theorem cases26 {p : Nat} (h1 : 1 ≤ p) (h2 : p ≤ 26) : p = 1 ∨ p = 2 ∨ p = 3 ∨ p = 4 ∨ p = 5 ∨ p = 6 ∨ p = 7 ∨ p = 8 ∨ p = 9 ∨ p = 10 ∨ p = 11 ∨ p = 12 ∨ p = 13 ∨ p = 14 ∨ p = 15 ∨ p = 16 ∨ p = 17 ∨ p = 18 ∨ p = 19 ∨ p = 20 ∨ p = 21 ∨ p = 22 ∨ p = 23 ∨ p = 24 ∨ p = 25 ∨ p = 26 := by omega
theorem index_SA (p : Nat) (h1 : 1 ≤ p) (h2 : p ≤ 26) : ∀ (b1 b2 b3 b4 : Nat) (w : World), (Instr.index 191 (.agg (SA 4 b1 b2 b3 b4)) (.int .i64 (p : Int))).run Tryz.prog w = .ok (recV (recOf p b1 b2 b3 b4)) w := by
  intro b1 b2 b3 b4 w
  obtain rfl | rfl | rfl | rfl | rfl | rfl | rfl | rfl | rfl | rfl | rfl | rfl | rfl | rfl | rfl | rfl | rfl | rfl | rfl | rfl | rfl | rfl | rfl | rfl | rfl | rfl := cases26 h1 h2
  all_goals kernel_rfl
theorem bcell {W w1 : World} (hb : Below W.heap.size W w1) : (∀ b o, b < W.heap.size → w1.cell? ⟨b, o, none⟩ = W.cell? ⟨b, o, none⟩) ∧ (∀ b o, b < W.heap.size → w1.frozen? ⟨b, o, none⟩ = W.frozen? ⟨b, o, none⟩) :=
  ⟨fun b o h => hb.cell (p := ⟨b, o, none⟩) h, fun b o h => hb.frozen (p := ⟨b, o, none⟩) h⟩
theorem SortWords.far {w W : World} {b1 b2 b3 b4 g : Nat} (h : SortWords w W b1 b2 b3 b4) (q : b1 ≠ g ∧ b2 ≠ g ∧ b3 ≠ g ∧ b4 ≠ g) (o : Nat) (v : Value) : SortWords w (W.setCell ⟨g, o, none⟩ v) b1 b2 b3 b4 :=
  ⟨(heap_setCell_other W ⟨g, o, none⟩ b1 v q.1).trans h.r1, (heap_setCell_other W ⟨g, o, none⟩ b2 v q.2.1).trans h.r2, (heap_setCell_other W ⟨g, o, none⟩ b3 v q.2.2.1).trans h.r3, (heap_setCell_other W ⟨g, o, none⟩ b4 v q.2.2.2).trans h.r4, h.m1, h.m2, h.m3, h.m4⟩
theorem SortWords.low {w w0 W : World} {b1 b2 b3 b4 : Nat} (h : SortWords w W b1 b2 b3 b4) (q : w0.heap.size ≤ w.heap.size) : SortWords w0 W b1 b2 b3 b4 :=
  ⟨h.r1, h.r2, h.r3, h.r4, Nat.le_trans q h.m1, Nat.le_trans q h.m2, Nat.le_trans q h.m3, Nat.le_trans q h.m4⟩
set_option maxHeartbeats 1000000 in
theorem ofC (p : Nat) (h1 : 1 ≤ p) (h2 : p ≤ 26) (w : World) :
    Calls Tryz.prog 116 #[.int .i64 (p : Int)] w fun e w' => ∃ b1 b2 b3 b4, e = .returned (.tuple #[recV (recOf p b1 b2 b3 b4), .bool true]) ∧ SortWords w w' b1 b2 b3 b4 ∧ Below w.heap.size w w' := by
  have hx := index_SA p h1 h2
  go_enter Tryz.func116, Tryz.ntmps116
  go_wp2_with (go_at_call 147; refine (sortsC _).mono ?_; rintro e w' ⟨b1, b2, b3, b4, rfl, hw, hb⟩; obtain ⟨hc, hf⟩ := bcell hb)
  have m1 := hw.m1
  have m2 := hw.m2
  have m3 := hw.m3
  have m4 := hw.m4
  rw [alloc_size] at m1 m2 m3 m4
  refine bodyPost_ret (v := .tuple #[recV (recOf p b1 b2 b3 b4), .bool true]) (by simp [results, Tryz.results116, go_sem, hc]) rfl ⟨b1, b2, b3, b4, rfl, ?_, ?_⟩
  · have q : b1 ≠ w.heap.size ∧ b2 ≠ w.heap.size ∧ b3 ≠ w.heap.size ∧ b4 ≠ w.heap.size := by omega
    iterate 10 refine SortWords.far ?_ q _ _
    exact hw.low (by rw [alloc_size]; omega)
  · have p1 : Below w.heap.size w w' := ((Below.refl _ _).alloc (Nat.le_refl _) _).trans (hb.mono (by rw [alloc_size]; omega))
    iterate 10 refine Below.setCell ?_ (by exact Nat.le_refl _) _
    exact p1
end Go.Proofs
set_option linter.unusedVariables false
set_option linter.unusedSimpArgs false
namespace Go.Proofs.Val
open Go.RowKit Go.Lib Go.Proofs.YtolfpgccebdlpaaGreatDoorW.PrintWords
theorem below_of_row {w W : World} {B : Nat} (h : Below B w W) {i : Nat} {o : Obj} (hi : w.heap[i]? = some o) (hb : i < B) : W.heap[i]? = some o := (h.block i hb).trans hi
theorem ascii_all {l : List UInt8} (h : l.all (fun b => decide (b.toNat < 128)) = true) : ∀ (j : Nat) (b : UInt8), l[j]? = some b → b.toNat < 128 := fun j b hb => of_decide_eq_true (List.all_eq_true.1 h b (List.mem_of_getElem? hb))
theorem trim_dig (s : ByteArray) (w : World) (hs : s.size < 4294967281) :
    Calls Tryz.prog 132 #[.string s, .string ⟨#[48, 49, 50, 51, 52, 53, 54, 55, 56, 57]⟩] w fun e w' => e = .returned (.string ⟨(Lib.trimS s.data.toList [48, 49, 50, 51, 52, 53, 54, 55, 56, 57]).toArray⟩) ∧ Below w.heap.size w w' :=
  Any.strings_Trim_laid Tryz.lays160 (by kernel_rfl) s ⟨#[48, 49, 50, 51, 52, 53, 54, 55, 56, 57]⟩ w (by omega) (by decide) (ascii_all (by decide))
set_option maxHeartbeats 1000000 in
theorem digits9 (w : World) : Calls Tryz.prog 183 #[.string ⟨#[57, 57, 57, 57, 57, 57, 57, 57, 57]⟩, .int .i64 9] w fun e w' => e = .returned (.bool true) ∧ Below w.heap.size w w' := by
  have hT := fun w => trim_dig ⟨#[57, 57, 57, 57, 57, 57, 57, 57, 57]⟩ w (by decide)
  rw [show Lib.trimS (⟨#[57, 57, 57, 57, 57, 57, 57, 57, 57]⟩ : ByteArray).data.toList [48, 49, 50, 51, 52, 53, 54, 55, 56, 57] = [] by decide] at hT
  go_enter Tryz.func183, Tryz.ntmps183
  go_wp2_with (first | (go_at_call 132; refine (hT _).mono ?_; rintro e w' ⟨rfl, hB⟩))
  go_ret
  exact ⟨rfl, hB⟩
set_option maxHeartbeats 1000000 in
theorem digits6 (w : World) : Calls Tryz.prog 183 #[.string ⟨#[57, 57, 57, 57, 57, 57]⟩, .int .i64 6] w fun e w' => e = .returned (.bool true) ∧ Below w.heap.size w w' := by
  have hT := fun w => trim_dig ⟨#[57, 57, 57, 57, 57, 57]⟩ w (by decide)
  rw [show Lib.trimS (⟨#[57, 57, 57, 57, 57, 57]⟩ : ByteArray).data.toList [48, 49, 50, 51, 52, 53, 54, 55, 56, 57] = [] by decide] at hT
  go_enter Tryz.func183, Tryz.ntmps183
  go_wp2_with (first | (go_at_call 132; refine (hT _).mono ?_; rintro e w' ⟨rfl, hB⟩))
  go_ret
  exact ⟨rfl, hB⟩
set_option maxHeartbeats 2000000 in
theorem numberM (w : World) : Calls Tryz.prog 148 #[.string ⟨#[57, 57, 57, 57, 57, 57, 57, 57, 57, 46, 57, 57, 57, 57, 57, 57]⟩] w fun e w' => e = .returned (.tuple #[.int .i64 63999999999, .bool true]) ∧ Below w.heap.size w w' := by
  have hP := fun w => Tryz.strings_CutPrefix ⟨#[57, 57, 57, 57, 57, 57, 57, 57, 57, 46, 57, 57, 57, 57, 57, 57]⟩ ⟨#[45]⟩ w
  rw [show Lib.trimPrefix (⟨#[57, 57, 57, 57, 57, 57, 57, 57, 57, 46, 57, 57, 57, 57, 57, 57]⟩ : ByteArray).data.toList (⟨#[45]⟩ : ByteArray).data.toList = [57, 57, 57, 57, 57, 57, 57, 57, 57, 46, 57, 57, 57, 57, 57, 57] by decide, show Lib.hasPrefix (⟨#[57, 57, 57, 57, 57, 57, 57, 57, 57, 46, 57, 57, 57, 57, 57, 57]⟩ : ByteArray).data.toList (⟨#[45]⟩ : ByteArray).data.toList = false by decide] at hP
  have hC := fun w => ShX.xCut_one Tryz.lays145 ⟨#[57, 57, 57, 57, 57, 57, 57, 57, 57, 46, 57, 57, 57, 57, 57, 57]⟩ 46 w (by decide)
  rw [show Lib.cut (⟨#[57, 57, 57, 57, 57, 57, 57, 57, 57, 46, 57, 57, 57, 57, 57, 57]⟩ : ByteArray).data.toList [46] = ([57, 57, 57, 57, 57, 57, 57, 57, 57], [57, 57, 57, 57, 57, 57], true) by decide] at hC
  have hN := fun w => Tryz.strconv_ParseInt_10_at64_ok ⟨#[57, 57, 57, 57, 57, 57, 57, 57, 57]⟩ (by decide) 999999999 (by decide) w
  have hM := fun w => Tryz.strconv_ParseInt_10_at64_ok ⟨#[57, 57, 57, 57, 57, 57]⟩ (by decide) 999999 (by decide) w
  have e6 : ((⟨#[57, 57, 57, 57, 57, 57]⟩ : ByteArray) ++ (⟨#[48, 48, 48, 48, 48, 48]⟩ : ByteArray)).extract 0 6 = ⟨#[57, 57, 57, 57, 57, 57]⟩ := by decide
  rw [← e6] at hM
  have hb : ∀ {W W' : World}, (W' = W ∨ ∃ t, W' = Lib.bytesWorld W 5 t) → Below W.heap.size W W' := by
    rintro W W' (rfl | ⟨t, rfl⟩)
    · exact Below.refl _ _
    · exact Lib.bytesWorld_below _ _ _
  go_enter Tryz.func148, Tryz.ntmps148
  go_wp2_with (first | (go_at_call 182; refine (hP _).mono ?_; rintro e w' ⟨rfl, rfl⟩) | (go_at_call 102; refine (hC _).mono ?_; rintro e w' ⟨rfl, nd, rfl⟩) | (go_at_call 183; first | (with_reducible refine (digits9 _).mono ?_; rintro e w1 ⟨rfl, hB1⟩) | (with_reducible refine (digits6 _).mono ?_; rintro e w2 ⟨rfl, hB2⟩)) | (go_at_call 184; first | (with_reducible refine (hN _).mono ?_; rintro e w3 ⟨rfl, hB3⟩) | (refine (hM _).mono ?_; rintro e w4 ⟨rfl, hB4⟩)))
  go_ret2
  have q0 : Below w'.heap.size w' (w'.drewN nd) := pw_below_drewN (Below.refl _ _) nd
  have q1 := below_then q0 q0.size hB1
  have q2 := below_then q1 q1.size hB2
  have q3 := below_then q2 q2.size (hb hB3)
  exact ⟨rfl, below_then q3 q3.size (hb hB4)⟩
set_option maxHeartbeats 1000000 in
theorem most_any (w : World) : Calls Tryz.prog 117 #[] w fun e w' => e = .returned (.int .i64 63999999999) ∧ Below w.heap.size w w' := by
  go_enter Tryz.func117, Tryz.ntmps117
  go_wp2_with (first | (go_at_call 148; refine (numberM _).mono ?_; rintro e w' ⟨rfl, hB⟩))
  go_ret
  exact ⟨rfl, hB⟩
end Go.Proofs.Val
