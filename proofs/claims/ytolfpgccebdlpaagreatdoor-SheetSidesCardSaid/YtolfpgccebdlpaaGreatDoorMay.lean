/- selector's may of one part: contracts proved by walking their text; no condition beside those that each theorem states. -/
import Derived.Test.YtolfpgccebdlpaaGreatDoorTkB
import Derived.BigQuiet
import Derived.Test.YtolfpgccebdlpaaGreatDoorWTab
import Derived.Deep.RegionHeld3
set_option linter.unusedVariables false
set_option linter.unusedSimpArgs false
namespace Go.Proofs.Tok
open Go.RowKit Go.Lib Go.Proofs.YtolfpgccebdlpaaGreatDoorW.PrintWords Go.Proofs.YtolfpgccebdlpaaGreatDoorW.PrintLast Go.Proofs.YtolfpgccebdlpaaGreatDoorW.PrintMore
def truthV (b : Bool) : Int := if b = true then 1 else 0
set_option maxHeartbeats 2000000 in
set_option maxRecDepth 400000 in
theorem truth_any (b : Bool) (w : World) : Calls Tryz.prog 59 #[.bool b] w fun e w' => e = .returned (.int .i64 (truthV b)) ∧ w' = w := by
  cases b with
  | true =>
    go_enter Tryz.func59, Tryz.ntmps59
    go_wp2
    go_ret
    exact ⟨rfl, rfl⟩
  | false =>
    go_enter Tryz.func59, Tryz.ntmps59
    go_wp2
    go_ret
    exact ⟨rfl, rfl⟩
theorem alloc_size (w : World) (o : Obj) : (w.alloc o).heap.size = w.heap.size + 1 := World.size_alloc _ _
theorem alloc_cell (w : World) (cs : Array Value) (e j : Nat) (v : Value) (h : cs[j]? = some v) : (w.alloc (.cells cs e)).cell? ⟨w.heap.size, j, none⟩ = some v := (World.cell?_alloc_new w cs e j).trans h
structure Since (b : Nat) (w0 W : World) : Prop where
  bel : Below w0.heap.size w0 W
  lt : b < w0.heap.size
theorem Since.refl {b : Nat} {w0 : World} (h : b < w0.heap.size) : Since b w0 w0 := ⟨Below.refl _ _, h⟩
theorem held_next {b : Nat} {u v x : Value} {w0 W W2 : World} (h : W.cell? ⟨b, 0, none⟩ = some u ∧ W.cell? ⟨b, 3, none⟩ = some v ∧ W.cell? ⟨b, 4, none⟩ = some x ∧ Since b w0 W) (hb : Below W.heap.size W W2) : W2.cell? ⟨b, 0, none⟩ = some u ∧ W2.cell? ⟨b, 3, none⟩ = some v ∧ W2.cell? ⟨b, 4, none⟩ = some x ∧ Since b w0 W2 :=
  ⟨(hb.cell (World.block_lt_of_cell? _ _ h.1)).trans h.1, (hb.cell (World.block_lt_of_cell? _ _ h.2.1)).trans h.2.1, (hb.cell (World.block_lt_of_cell? _ _ h.2.2.1)).trans h.2.2.1, ⟨below_then h.2.2.2.1 h.2.2.2.1.size hb, h.2.2.2.2⟩⟩
def mayV (t : ByteArray) (l1 l2 : List ByteArray) (b3 b4 : Bool) : Bool := (decide (t.data.toList = []) || nameV t.data.toList) && (!(l1 ++ l2).any noName && decide (((l1 ++ l2).length : Int) + truthV b3 + truthV b4 ≤ 8))
theorem may_sum (l1 l2 : List ByteArray) (b3 b4 : Bool) (h : (l1.length + l2.length) * 16 ≤ 140737488355328) : wrap64 (wrap64 ((l1.length : Int) + (l2.length : Int) + truthV b3) + truthV b4) = ((l1 ++ l2).length : Int) + truthV b3 + truthV b4 := by
  rw [List.length_append]
  cases b3 <;> cases b4 <;> simp only [truthV, if_true, if_false, Bool.false_eq_true] <;> unfold wrap64 <;> omega
theorem may_tab : rtab .any (opsOf Tryz.f52 2) = rtab .any (opsOf Tryz.f52 2) := rfl
set_option maxHeartbeats 4000000 in
set_option maxRecDepth 400000 in
theorem may_any (t : ByteArray) (A1 : Option Addr) (c1 : Nat) (l1 : List ByteArray) (A2 : Option Addr) (c2 : Nat) (l2 : List ByteArray) (b3 b4 : Bool) (w : World) (C1 : Kd.C Kd.string w A1 l1.length l1) (C2 : Kd.C Kd.string w A2 l2.length l2)
    (hl : (l1.length + l2.length) * 16 ≤ 140737488355328) (ht : t.size < 4294967281) (hs : ∀ s ∈ l1 ++ l2, s.size < 4294967281) :
    Calls Tryz.prog 52 #[.agg #[.string t, .slice A1 l1.length c1, .slice A2 l2.length c2, .bool b3, .bool b4]] w fun e w' => e = .returned (.bool (mayV t l1 l2 b3 b4)) ∧ Below w.heap.size w w' := by
  have D1 := Aside0.mk C1
  have D2 := Aside0.mk C2
  have HL := Aside0.mk hl
  have HS := Aside0.mk hs
  clear C1 C2 hl hs
  have hu44 := Tryz.underlying80
  obtain ⟨w0, hw0⟩ : ∃ w0, w.alloc (.cells #[.string t, .slice A1 l1.length c1, .slice A2 l2.length c2, .bool b3, .bool b4] 80) = w0 := ⟨_, rfl⟩
  obtain ⟨w1, hw1⟩ : ∃ w1, w0.alloc (.cells #[.slice A1 l1.length c1, .slice A2 l2.length c2] 76) = w1 := ⟨_, rfl⟩
  have b0 : Below w.heap.size w w0 := by rw [← hw0]; exact below_alloc (Below.refl _ _) _
  have sz0 : w0.heap.size = w.heap.size + 1 := by rw [← hw0]; exact alloc_size _ _
  have b1 : Below w0.heap.size w0 w1 := by rw [← hw1]; exact below_alloc (Below.refl _ _) _
  have sz1 : w1.heap.size = w.heap.size + 2 := by rw [← hw1, alloc_size, sz0]
  have k0 : ∀ j v, (#[.string t, .slice A1 l1.length c1, .slice A2 l2.length c2, .bool b3, .bool b4] : Array Value)[j]? = some v → w1.cell? ⟨w.heap.size, j, none⟩ = some v := by
    intro j v hj
    refine (b1.cell (p := ⟨w.heap.size, j, none⟩) (by show w.heap.size < _; omega)).trans ?_
    rw [← hw0]
    exact alloc_cell _ _ _ _ _ hj
  have k1 : ∀ j v, (#[.slice A1 l1.length c1, .slice A2 l2.length c2] : Array Value)[j]? = some v → w1.cell? ⟨w.heap.size + 1, j, none⟩ = some v := by
    intro j v hj
    rw [← hw1, ← sz0]
    exact alloc_cell _ _ _ _ _ hj
  have B1 := Aside0.mk (below_then b0 b0.size b1)
  have hcc := concat_any l1 l2 A1 A2 c1 c2 (w.heap.size + 1) w1 (by omega) (k1 0 _ rfl) (k1 1 _ rfl) (Kd.C_below D1.out B1.out) (Kd.C_below D2.out B1.out) HL.out
  have K0 := Aside0.mk k0
  have SZ := Aside0.mk sz1
  have E1 := Aside0.mk hw1
  have E0 := Aside0.mk hw0
  clear k0 k1 b0 b1 sz0 sz1 hw0 hw1
  go_enter Tryz.func52, Tryz.ntmps52
  go_wp2_with (first | (go_at_call 93; rw [E0.out, E1.out]; refine hcc.mono ?_; rintro e w' ⟨v, rfl, hR, hB⟩; obtain ⟨A3, c3, e3⟩ := Kd.R_slice hR; subst e3; have C3 := Aside0.mk (Kd.R_reads' hR).2.2; have K2 := Aside0.mk (fun (j : Nat) (v : Value) (hj : (#[.string t, .slice A1 l1.length c1, .slice A2 l2.length c2, .bool b3, .bool b4] : Array Value)[j]? = some v) => (hB.cell (p := ⟨w.heap.size, j, none⟩) (by show w.heap.size < _; rw [SZ.out]; omega)).trans (K0.out j v hj)); have HB := Aside0.mk (below_then B1.out B1.out.size hB); have hsz := hB.size; rw [SZ.out] at hsz; clear hR hB))
  have h0 : w'.cell? ⟨w.heap.size, 0, none⟩ = some (.string t) := K2.out 0 _ rfl
  have h3 : w'.cell? ⟨w.heap.size, 3, none⟩ = some (.bool b3) := K2.out 3 _ rfl
  have h4 : w'.cell? ⟨w.heap.size, 4, none⟩ = some (.bool b4) := K2.out 4 _ rfl
  have hsz1 : w.heap.size < w'.heap.size := by omega
  have hcf : ∀ W, (W.cell? ⟨w.heap.size, 0, none⟩ = some (.string t) ∧ W.cell? ⟨w.heap.size, 3, none⟩ = some (.bool b3) ∧ W.cell? ⟨w.heap.size, 4, none⟩ = some (.bool b4) ∧ Since w.heap.size w' W) → Calls Tryz.prog 95 #[.slice A3 (l1.length + l2.length) c3, .func (.func 96) #[] #[]] W fun e w' => e = .returned (.bool ((l1 ++ l2).any noName)) ∧ Below W.heap.size W w' := by
    intro W hW
    have := contains_strs (l1 ++ l2) A3 c3 W (Kd.C_below C3.out hW.2.2.2.1) (by have := HL.out; rw [List.length_append]; omega) HS.out
    rwa [List.length_append] at this
  have hnm := fun W => Name_any t W ht
  have HM : Aside0 (mayV t l1 l2 b3 b4 = ((decide (t.data.toList = []) || nameV t.data.toList) && (!(l1 ++ l2).any noName && decide (((l1 ++ l2).length : Int) + truthV b3 + truthV b4 ≤ 8)))) := ⟨rfl⟩
  clear h0 h3 h4
  have h0 : w'.cell? ⟨w.heap.size, 0, none⟩ = some (.string t) := K2.out 0 _ rfl
  have h3 : w'.cell? ⟨w.heap.size, 3, none⟩ = some (.bool b3) := K2.out 3 _ rfl
  have h4 : w'.cell? ⟨w.heap.size, 4, none⟩ = some (.bool b4) := K2.out 4 _ rfl
  obtain ⟨bn, hbn⟩ : ∃ bn, nameV t.data.toList = bn := ⟨_, rfl⟩
  obtain ⟨ba, hba⟩ : ∃ ba, (l1 ++ l2).any noName = ba := ⟨_, rfl⟩
  rw [hbn] at hnm
  rw [hba] at hcf
  have HN := Aside0.mk hbn
  have HA := Aside0.mk hba
  clear hbn hba
  by_cases hE : t.data.toList = []
  · have e1 : (t.toList == ([] : List UInt8)) = true := by rw [Lib.toList_data, hE]; rfl
    have e3 : (t.toList = []) = True := eq_true (by rw [Lib.toList_data, hE])
    have HE := Aside0.mk hE
    clear hE
    cases ba with
    | true =>
      refine start_ (n := 27) (S := (fun W => W.cell? ⟨w.heap.size, 0, none⟩ = some (.string t) ∧ W.cell? ⟨w.heap.size, 3, none⟩ = some (.bool b3) ∧ W.cell? ⟨w.heap.size, 4, none⟩ = some (.bool b4) ∧ Since w.heap.size w' W)) (ds := []) #[false, false, false, false, false, false, false, false, false, false, false, false, false, false, false, false, false, false, false, false, false, false, false, false, false, false, false] (by kernel_rfl) rfl rfl ⟨h0, h3, h4, ⟨below_drew1 (Below.refl _ _), hsz1⟩⟩ (fun hHeld => ?_)
      refine with_tab may_tab (fun HT_ => ?_)
      refine pure_ (i := 0) (N := (some 10)) (v := ?vv1) (a' := ?aa1) #[true, false, false, false, false, false, false, false, false, false, false, false, false, false, false, false, false, false, false, false, false, false, false, false, false, false, false] rfl rfl (any_of HT_.out (by kernel_rfl)) (fun _ _ _ h => h) (Or.inl ⟨by rfl, ?hy1⟩) ?ha1 ?hh1
      case hy1 => (intro w'; go_simp; try with_reducible rfl)
      case ha1 => (simp only [Act.put, List.setIfInBounds_toArray, List.set_cons_zero, List.set_cons_succ, i64_w, i32_w]; rfl)
      refine take_ (i := 1) (N := (some 11)) (v := ?vv2) (a' := ?aa2) #[true, true, false, false, false, false, false, false, false, false, false, false, false, false, false, false, false, false, false, false, false, false, false, false, false, false, false] rfl rfl (take_of HT_.out (by kernel_rfl)) (fun _ _ _ h => h) (Or.inl ⟨by rfl, ?hy2⟩) hHeld ?ha2 ?hh2
      case hy2 => (intro w' hS; obtain ⟨hS0, hS3, hS4, hSb⟩ := hS; go_simp; try with_reducible rfl)
      case ha2 => (simp only [Act.put, List.setIfInBounds_toArray, List.set_cons_zero, List.set_cons_succ, i64_w, i32_w]; rfl)
      refine pure_ (i := 2) (N := (some 12)) (v := ?vv3) (a' := ?aa3) #[true, true, true, false, false, false, false, false, false, false, false, false, false, false, false, false, false, false, false, false, false, false, false, false, false, false, false] rfl rfl (any_of HT_.out (by kernel_rfl)) (fun _ _ _ h => h) (Or.inl ⟨by rfl, ?hy3⟩) ?ha3 ?hh3
      case hy3 => (intro w'; go_simp; try with_reducible rfl)
      case ha3 => (simp only [Act.put, List.setIfInBounds_toArray, List.set_cons_zero, List.set_cons_succ, i64_w, i32_w]; rfl)
      refine pure_ (i := 3) (N := (some 13)) (v := ?vv4) (a' := ?aa4) #[true, true, true, true, false, false, false, false, false, false, false, false, false, false, false, false, false, false, false, false, false, false, false, false, false, false, false] rfl rfl (any_of HT_.out (by kernel_rfl)) (fun _ _ _ h => h) (Or.inl ⟨by rfl, ?hy4⟩) ?ha4 ?hh4
      case hy4 => (intro w'; go_simp; try with_reducible rfl)
      case ha4 => (simp only [Act.put, List.setIfInBounds_toArray, List.set_cons_zero, List.set_cons_succ, i64_w, i32_w]; rfl)
      refine pure_ (i := 4) (N := (some 14)) (v := undef) (a' := ?aa5) #[true, true, true, true, true, false, false, false, false, false, false, false, false, false, false, false, false, false, false, false, false, false, false, false, false, false, false] rfl rfl (any_of HT_.out (by kernel_rfl)) (fun _ _ _ h => h) (Or.inr ⟨by rfl, rfl⟩) ?ha5 ?hh5
      case ha5 => (simp only [Act.put, List.setIfInBounds_toArray, List.set_cons_zero, List.set_cons_succ, i64_w, i32_w]; rfl)
      refine pure_ (i := 5) (N := (some 15)) (v := undef) (a' := ?aa6) #[true, true, true, true, true, true, false, false, false, false, false, false, false, false, false, false, false, false, false, false, false, false, false, false, false, false, false] rfl rfl (any_of HT_.out (by kernel_rfl)) (fun _ _ _ h => h) (Or.inr ⟨by rfl, rfl⟩) ?ha6 ?hh6
      case ha6 => (simp only [Act.put, List.setIfInBounds_toArray, List.set_cons_zero, List.set_cons_succ, i64_w, i32_w]; rfl)
      refine pure_ (i := 6) (N := (some 16)) (v := undef) (a' := ?aa7) #[true, true, true, true, true, true, true, false, false, false, false, false, false, false, false, false, false, false, false, false, false, false, false, false, false, false, false] rfl rfl (any_of HT_.out (by kernel_rfl)) (fun _ _ _ h => h) (Or.inr ⟨by rfl, rfl⟩) ?ha7 ?hh7
      case ha7 => (simp only [Act.put, List.setIfInBounds_toArray, List.set_cons_zero, List.set_cons_succ, i64_w, i32_w]; rfl)
      refine pure_ (i := 7) (N := (some 17)) (v := ?vv8) (a' := ?aa8) #[true, true, true, true, true, true, true, true, false, false, false, false, false, false, false, false, false, false, false, false, false, false, false, false, false, false, false] rfl rfl (any_of HT_.out (by kernel_rfl)) (fun _ _ _ h => h) (Or.inl ⟨by rfl, ?hy8⟩) ?ha8 ?hh8
      case hy8 => (intro w'; go_simp; try with_reducible rfl)
      case ha8 => (simp only [Act.put, List.setIfInBounds_toArray, List.set_cons_zero, List.set_cons_succ, i64_w, i32_w]; rfl)
      refine pure_ (i := 8) (N := (some 18)) (v := ?vv9) (a' := ?aa9) #[true, true, true, true, true, true, true, true, true, false, false, false, false, false, false, false, false, false, false, false, false, false, false, false, false, false, false] rfl rfl (any_of HT_.out (by kernel_rfl)) (fun _ _ _ h => h) (Or.inl ⟨by rfl, ?hy9⟩) ?ha9 ?hh9
      case hy9 => (intro w'; go_simp; try with_reducible rfl)
      case ha9 => (simp only [Act.put, List.setIfInBounds_toArray, List.set_cons_zero, List.set_cons_succ, i64_w, i32_w]; rfl)
      refine pure_ (i := 9) (N := (some 19)) (v := ?vv10) (a' := ?aa10) #[true, true, true, true, true, true, true, true, true, true, false, false, false, false, false, false, false, false, false, false, false, false, false, false, false, false, false] rfl rfl (any_of HT_.out (by kernel_rfl)) (fun _ _ _ h => h) (Or.inl ⟨by rfl, ?hy10⟩) ?ha10 ?hh10
      case hy10 => (intro w'; go_simp; try with_reducible rfl)
      case ha10 => (simp only [Act.put, List.setIfInBounds_toArray, List.set_cons_zero, List.set_cons_succ, i64_w, i32_w]; rfl)
      refine one_ (i := 10) (N := (some 20)) #[true, true, true, true, true, true, true, true, true, true, true, false, false, false, false, false, false, false, false, false, false, false, false, false, false, false, false] rfl rfl (one_of HT_.out (by kernel_rfl)) (by decide) (fun K hK => ?_)
      refine goes_ Tryz.func95 (by kernel_rfl) rfl #[.slice A3 (l1.length + l2.length) c3, .func (.func 96) #[] #[]] (by rfl) rfl rfl (by (try simp only [List.map_toArray, List.map_cons, List.map_nil]); first | done | rfl) ?_
      refine (hcf _ hHeld).mono ?_
      rintro e w3 ⟨rfl, hB3⟩
      refine ⟨_, rfl, ?_⟩
      refine hK.out _ _ (held_next hHeld hB3) (fun hHeld => ?_)
      clear hK K
      refine norm_ (a' := ?aa11) ?ha11 ?hh11
      case ha11 => (show Act.put _ (some 20) _ = _; simp only [Act.put, List.setIfInBounds_toArray, List.set_cons_zero, List.set_cons_succ, i64_w, i32_w]; rfl)
      refine pure_ (i := 11) (N := (some 21)) (v := ?vv12) (a' := ?aa12) #[true, true, true, true, true, true, true, true, true, true, true, true, false, false, false, false, false, false, false, false, false, false, false, false, false, false, false] rfl rfl (any_of HT_.out (by kernel_rfl)) (fun _ _ _ h => h) (Or.inl ⟨by rfl, ?hy12⟩) ?ha12 ?hh12
      case hy12 => (intro w'; go_simp; try with_reducible rfl)
      case ha12 => (simp only [Act.put, List.setIfInBounds_toArray, List.set_cons_zero, List.set_cons_succ, i64_w, i32_w]; rfl)
      refine pure_ (i := 12) (N := (some 22)) (v := ?vv13) (a' := ?aa13) #[true, true, true, true, true, true, true, true, true, true, true, true, true, false, false, false, false, false, false, false, false, false, false, false, false, false, false] rfl rfl (any_of HT_.out (by kernel_rfl)) (fun _ _ _ h => h) (Or.inl ⟨by rfl, ?hy13⟩) ?ha13 ?hh13
      case hy13 => (intro w'; go_simp; try with_reducible rfl)
      case ha13 => (simp only [Act.put, List.setIfInBounds_toArray, List.set_cons_zero, List.set_cons_succ, i64_w, i32_w]; rfl)
      refine pure_ (i := 13) (N := (some 23)) (v := ?vv14) (a' := ?aa14) #[true, true, true, true, true, true, true, true, true, true, true, true, true, true, false, false, false, false, false, false, false, false, false, false, false, false, false] rfl rfl (any_of HT_.out (by kernel_rfl)) (fun _ _ _ h => h) (Or.inl ⟨by rfl, ?hy14⟩) ?ha14 ?hh14
      case hy14 => (intro w'; go_simp; try with_reducible rfl)
      case ha14 => (simp only [Act.put, List.setIfInBounds_toArray, List.set_cons_zero, List.set_cons_succ, i64_w, i32_w]; rfl)
      refine pure_ (i := 14) (N := (some 24)) (v := undef) (a' := ?aa15) #[true, true, true, true, true, true, true, true, true, true, true, true, true, true, true, false, false, false, false, false, false, false, false, false, false, false, false] rfl rfl (any_of HT_.out (by kernel_rfl)) (fun _ _ _ h => h) (Or.inr ⟨by rfl, rfl⟩) ?ha15 ?hh15
      case ha15 => (simp only [Act.put, List.setIfInBounds_toArray, List.set_cons_zero, List.set_cons_succ, i64_w, i32_w]; rfl)
      refine pure_ (i := 15) (N := (some 25)) (v := undef) (a' := ?aa16) #[true, true, true, true, true, true, true, true, true, true, true, true, true, true, true, true, false, false, false, false, false, false, false, false, false, false, false] rfl rfl (any_of HT_.out (by kernel_rfl)) (fun _ _ _ h => h) (Or.inr ⟨by rfl, rfl⟩) ?ha16 ?hh16
      case ha16 => (simp only [Act.put, List.setIfInBounds_toArray, List.set_cons_zero, List.set_cons_succ, i64_w, i32_w]; rfl)
      refine pure_ (i := 16) (N := (some 26)) (v := undef) (a' := ?aa17) #[true, true, true, true, true, true, true, true, true, true, true, true, true, true, true, true, true, false, false, false, false, false, false, false, false, false, false] rfl rfl (any_of HT_.out (by kernel_rfl)) (fun _ _ _ h => h) (Or.inr ⟨by rfl, rfl⟩) ?ha17 ?hh17
      case ha17 => (simp only [Act.put, List.setIfInBounds_toArray, List.set_cons_zero, List.set_cons_succ, i64_w, i32_w]; rfl)
      refine pure_ (i := 17) (N := (some 27)) (v := undef) (a' := ?aa18) #[true, true, true, true, true, true, true, true, true, true, true, true, true, true, true, true, true, true, false, false, false, false, false, false, false, false, false] rfl rfl (any_of HT_.out (by kernel_rfl)) (fun _ _ _ h => h) (Or.inr ⟨by rfl, rfl⟩) ?ha18 ?hh18
      case ha18 => (simp only [Act.put, List.setIfInBounds_toArray, List.set_cons_zero, List.set_cons_succ, i64_w, i32_w]; rfl)
      refine pure_ (i := 18) (N := (some 28)) (v := undef) (a' := ?aa19) #[true, true, true, true, true, true, true, true, true, true, true, true, true, true, true, true, true, true, true, false, false, false, false, false, false, false, false] rfl rfl (any_of HT_.out (by kernel_rfl)) (fun _ _ _ h => h) (Or.inr ⟨by rfl, rfl⟩) ?ha19 ?hh19
      case ha19 => (simp only [Act.put, List.setIfInBounds_toArray, List.set_cons_zero, List.set_cons_succ, i64_w, i32_w]; rfl)
      refine pure_ (i := 19) (N := (some 29)) (v := undef) (a' := ?aa20) #[true, true, true, true, true, true, true, true, true, true, true, true, true, true, true, true, true, true, true, true, false, false, false, false, false, false, false] rfl rfl (any_of HT_.out (by kernel_rfl)) (fun _ _ _ h => h) (Or.inr ⟨by rfl, rfl⟩) ?ha20 ?hh20
      case ha20 => (simp only [Act.put, List.setIfInBounds_toArray, List.set_cons_zero, List.set_cons_succ, i64_w, i32_w]; rfl)
      refine pure_ (i := 20) (N := (some 30)) (v := undef) (a' := ?aa21) #[true, true, true, true, true, true, true, true, true, true, true, true, true, true, true, true, true, true, true, true, true, false, false, false, false, false, false] rfl rfl (any_of HT_.out (by kernel_rfl)) (fun _ _ _ h => h) (Or.inr ⟨by rfl, rfl⟩) ?ha21 ?hh21
      case ha21 => (simp only [Act.put, List.setIfInBounds_toArray, List.set_cons_zero, List.set_cons_succ, i64_w, i32_w]; rfl)
      refine pure_ (i := 21) (N := (some 31)) (v := undef) (a' := ?aa22) #[true, true, true, true, true, true, true, true, true, true, true, true, true, true, true, true, true, true, true, true, true, true, false, false, false, false, false] rfl rfl (any_of HT_.out (by kernel_rfl)) (fun _ _ _ h => h) (Or.inr ⟨by rfl, rfl⟩) ?ha22 ?hh22
      case ha22 => (simp only [Act.put, List.setIfInBounds_toArray, List.set_cons_zero, List.set_cons_succ, i64_w, i32_w]; rfl)
      refine pure_ (i := 22) (N := (some 32)) (v := undef) (a' := ?aa23) #[true, true, true, true, true, true, true, true, true, true, true, true, true, true, true, true, true, true, true, true, true, true, true, false, false, false, false] rfl rfl (any_of HT_.out (by kernel_rfl)) (fun _ _ _ h => h) (Or.inr ⟨by rfl, rfl⟩) ?ha23 ?hh23
      case ha23 => (simp only [Act.put, List.setIfInBounds_toArray, List.set_cons_zero, List.set_cons_succ, i64_w, i32_w]; rfl)
      refine pure_ (i := 23) (N := (some 33)) (v := undef) (a' := ?aa24) #[true, true, true, true, true, true, true, true, true, true, true, true, true, true, true, true, true, true, true, true, true, true, true, true, false, false, false] rfl rfl (any_of HT_.out (by kernel_rfl)) (fun _ _ _ h => h) (Or.inr ⟨by rfl, rfl⟩) ?ha24 ?hh24
      case ha24 => (simp only [Act.put, List.setIfInBounds_toArray, List.set_cons_zero, List.set_cons_succ, i64_w, i32_w]; rfl)
      refine pure_ (i := 24) (N := (some 34)) (v := undef) (a' := ?aa25) #[true, true, true, true, true, true, true, true, true, true, true, true, true, true, true, true, true, true, true, true, true, true, true, true, true, false, false] rfl rfl (any_of HT_.out (by kernel_rfl)) (fun _ _ _ h => h) (Or.inr ⟨by rfl, rfl⟩) ?ha25 ?hh25
      case ha25 => (simp only [Act.put, List.setIfInBounds_toArray, List.set_cons_zero, List.set_cons_succ, i64_w, i32_w]; rfl)
      refine pure_ (i := 25) (N := (some 35)) (v := ?vv26) (a' := ?aa26) #[true, true, true, true, true, true, true, true, true, true, true, true, true, true, true, true, true, true, true, true, true, true, true, true, true, true, false] rfl rfl (any_of HT_.out (by kernel_rfl)) (fun _ _ _ h => h) (Or.inl ⟨by rfl, ?hy26⟩) ?ha26 ?hh26
      case hy26 => (intro w'; go_simp; try with_reducible rfl)
      case ha26 => (simp only [Act.put, List.setIfInBounds_toArray, List.set_cons_zero, List.set_cons_succ, i64_w, i32_w]; rfl)
      refine pure_ (i := 26) (N := (some 2)) (v := ?vv27) (a' := ?aa27) #[true, true, true, true, true, true, true, true, true, true, true, true, true, true, true, true, true, true, true, true, true, true, true, true, true, true, true] rfl rfl (any_of HT_.out (by kernel_rfl)) (fun _ _ _ h => h) (Or.inl ⟨by rfl, ?hy27⟩) ?ha27 ?hh27
      case hy27 => (intro w'; go_simp; try with_reducible rfl)
      case ha27 => (simp only [Act.put, List.setIfInBounds_toArray, List.set_cons_zero, List.set_cons_succ, i64_w, i32_w]; rfl)
      refine done_ (done_of HT_.out (by kernel_rfl)) ?_
      go_wp2
      go_ret
      have hSb := hHeld.2.2.2.1
      refine ⟨?_, below_then HB.out HB.out.size hSb⟩
      rw [HM.out, HN.out, HA.out]
      show Ending.returned (Value.bool false) = _
      simp [HE.out]
    | false =>
      refine start_ (n := 27) (S := (fun W => W.cell? ⟨w.heap.size, 0, none⟩ = some (.string t) ∧ W.cell? ⟨w.heap.size, 3, none⟩ = some (.bool b3) ∧ W.cell? ⟨w.heap.size, 4, none⟩ = some (.bool b4) ∧ Since w.heap.size w' W)) (ds := []) #[false, false, false, false, false, false, false, false, false, false, false, false, false, false, false, false, false, false, false, false, false, false, false, false, false, false, false] (by kernel_rfl) rfl rfl ⟨h0, h3, h4, ⟨below_drew1 (Below.refl _ _), hsz1⟩⟩ (fun hHeld => ?_)
      refine with_tab may_tab (fun HT_ => ?_)
      refine pure_ (i := 0) (N := (some 10)) (v := ?vv29) (a' := ?aa29) #[true, false, false, false, false, false, false, false, false, false, false, false, false, false, false, false, false, false, false, false, false, false, false, false, false, false, false] rfl rfl (any_of HT_.out (by kernel_rfl)) (fun _ _ _ h => h) (Or.inl ⟨by rfl, ?hy29⟩) ?ha29 ?hh29
      case hy29 => (intro w'; go_simp; try with_reducible rfl)
      case ha29 => (simp only [Act.put, List.setIfInBounds_toArray, List.set_cons_zero, List.set_cons_succ, i64_w, i32_w]; rfl)
      refine take_ (i := 1) (N := (some 11)) (v := ?vv30) (a' := ?aa30) #[true, true, false, false, false, false, false, false, false, false, false, false, false, false, false, false, false, false, false, false, false, false, false, false, false, false, false] rfl rfl (take_of HT_.out (by kernel_rfl)) (fun _ _ _ h => h) (Or.inl ⟨by rfl, ?hy30⟩) hHeld ?ha30 ?hh30
      case hy30 => (intro w' hS; obtain ⟨hS0, hS3, hS4, hSb⟩ := hS; go_simp; try with_reducible rfl)
      case ha30 => (simp only [Act.put, List.setIfInBounds_toArray, List.set_cons_zero, List.set_cons_succ, i64_w, i32_w]; rfl)
      refine pure_ (i := 2) (N := (some 12)) (v := ?vv31) (a' := ?aa31) #[true, true, true, false, false, false, false, false, false, false, false, false, false, false, false, false, false, false, false, false, false, false, false, false, false, false, false] rfl rfl (any_of HT_.out (by kernel_rfl)) (fun _ _ _ h => h) (Or.inl ⟨by rfl, ?hy31⟩) ?ha31 ?hh31
      case hy31 => (intro w'; go_simp; try with_reducible rfl)
      case ha31 => (simp only [Act.put, List.setIfInBounds_toArray, List.set_cons_zero, List.set_cons_succ, i64_w, i32_w]; rfl)
      refine pure_ (i := 3) (N := (some 13)) (v := ?vv32) (a' := ?aa32) #[true, true, true, true, false, false, false, false, false, false, false, false, false, false, false, false, false, false, false, false, false, false, false, false, false, false, false] rfl rfl (any_of HT_.out (by kernel_rfl)) (fun _ _ _ h => h) (Or.inl ⟨by rfl, ?hy32⟩) ?ha32 ?hh32
      case hy32 => (intro w'; go_simp; try with_reducible rfl)
      case ha32 => (simp only [Act.put, List.setIfInBounds_toArray, List.set_cons_zero, List.set_cons_succ, i64_w, i32_w]; rfl)
      refine pure_ (i := 4) (N := (some 14)) (v := undef) (a' := ?aa33) #[true, true, true, true, true, false, false, false, false, false, false, false, false, false, false, false, false, false, false, false, false, false, false, false, false, false, false] rfl rfl (any_of HT_.out (by kernel_rfl)) (fun _ _ _ h => h) (Or.inr ⟨by rfl, rfl⟩) ?ha33 ?hh33
      case ha33 => (simp only [Act.put, List.setIfInBounds_toArray, List.set_cons_zero, List.set_cons_succ, i64_w, i32_w]; rfl)
      refine pure_ (i := 5) (N := (some 15)) (v := undef) (a' := ?aa34) #[true, true, true, true, true, true, false, false, false, false, false, false, false, false, false, false, false, false, false, false, false, false, false, false, false, false, false] rfl rfl (any_of HT_.out (by kernel_rfl)) (fun _ _ _ h => h) (Or.inr ⟨by rfl, rfl⟩) ?ha34 ?hh34
      case ha34 => (simp only [Act.put, List.setIfInBounds_toArray, List.set_cons_zero, List.set_cons_succ, i64_w, i32_w]; rfl)
      refine pure_ (i := 6) (N := (some 16)) (v := undef) (a' := ?aa35) #[true, true, true, true, true, true, true, false, false, false, false, false, false, false, false, false, false, false, false, false, false, false, false, false, false, false, false] rfl rfl (any_of HT_.out (by kernel_rfl)) (fun _ _ _ h => h) (Or.inr ⟨by rfl, rfl⟩) ?ha35 ?hh35
      case ha35 => (simp only [Act.put, List.setIfInBounds_toArray, List.set_cons_zero, List.set_cons_succ, i64_w, i32_w]; rfl)
      refine pure_ (i := 7) (N := (some 17)) (v := ?vv36) (a' := ?aa36) #[true, true, true, true, true, true, true, true, false, false, false, false, false, false, false, false, false, false, false, false, false, false, false, false, false, false, false] rfl rfl (any_of HT_.out (by kernel_rfl)) (fun _ _ _ h => h) (Or.inl ⟨by rfl, ?hy36⟩) ?ha36 ?hh36
      case hy36 => (intro w'; go_simp; try with_reducible rfl)
      case ha36 => (simp only [Act.put, List.setIfInBounds_toArray, List.set_cons_zero, List.set_cons_succ, i64_w, i32_w]; rfl)
      refine pure_ (i := 8) (N := (some 18)) (v := ?vv37) (a' := ?aa37) #[true, true, true, true, true, true, true, true, true, false, false, false, false, false, false, false, false, false, false, false, false, false, false, false, false, false, false] rfl rfl (any_of HT_.out (by kernel_rfl)) (fun _ _ _ h => h) (Or.inl ⟨by rfl, ?hy37⟩) ?ha37 ?hh37
      case hy37 => (intro w'; go_simp; try with_reducible rfl)
      case ha37 => (simp only [Act.put, List.setIfInBounds_toArray, List.set_cons_zero, List.set_cons_succ, i64_w, i32_w]; rfl)
      refine pure_ (i := 9) (N := (some 19)) (v := ?vv38) (a' := ?aa38) #[true, true, true, true, true, true, true, true, true, true, false, false, false, false, false, false, false, false, false, false, false, false, false, false, false, false, false] rfl rfl (any_of HT_.out (by kernel_rfl)) (fun _ _ _ h => h) (Or.inl ⟨by rfl, ?hy38⟩) ?ha38 ?hh38
      case hy38 => (intro w'; go_simp; try with_reducible rfl)
      case ha38 => (simp only [Act.put, List.setIfInBounds_toArray, List.set_cons_zero, List.set_cons_succ, i64_w, i32_w]; rfl)
      refine one_ (i := 10) (N := (some 20)) #[true, true, true, true, true, true, true, true, true, true, true, false, false, false, false, false, false, false, false, false, false, false, false, false, false, false, false] rfl rfl (one_of HT_.out (by kernel_rfl)) (by decide) (fun K hK => ?_)
      refine goes_ Tryz.func95 (by kernel_rfl) rfl #[.slice A3 (l1.length + l2.length) c3, .func (.func 96) #[] #[]] (by rfl) rfl rfl (by (try simp only [List.map_toArray, List.map_cons, List.map_nil]); first | done | rfl) ?_
      refine (hcf _ hHeld).mono ?_
      rintro e w3 ⟨rfl, hB3⟩
      refine ⟨_, rfl, ?_⟩
      refine hK.out _ _ (held_next hHeld hB3) (fun hHeld => ?_)
      clear hK K
      refine norm_ (a' := ?aa39) ?ha39 ?hh39
      case ha39 => (show Act.put _ (some 20) _ = _; simp only [Act.put, List.setIfInBounds_toArray, List.set_cons_zero, List.set_cons_succ, i64_w, i32_w]; rfl)
      refine pure_ (i := 11) (N := (some 21)) (v := ?vv40) (a' := ?aa40) #[true, true, true, true, true, true, true, true, true, true, true, true, false, false, false, false, false, false, false, false, false, false, false, false, false, false, false] rfl rfl (any_of HT_.out (by kernel_rfl)) (fun _ _ _ h => h) (Or.inl ⟨by rfl, ?hy40⟩) ?ha40 ?hh40
      case hy40 => (intro w'; go_simp; try with_reducible rfl)
      case ha40 => (simp only [Act.put, List.setIfInBounds_toArray, List.set_cons_zero, List.set_cons_succ, i64_w, i32_w]; rfl)
      refine pure_ (i := 12) (N := (some 22)) (v := ?vv41) (a' := ?aa41) #[true, true, true, true, true, true, true, true, true, true, true, true, true, false, false, false, false, false, false, false, false, false, false, false, false, false, false] rfl rfl (any_of HT_.out (by kernel_rfl)) (fun _ _ _ h => h) (Or.inl ⟨by rfl, ?hy41⟩) ?ha41 ?hh41
      case hy41 => (intro w'; go_simp; try with_reducible rfl)
      case ha41 => (simp only [Act.put, List.setIfInBounds_toArray, List.set_cons_zero, List.set_cons_succ, i64_w, i32_w]; rfl)
      refine pure_ (i := 13) (N := (some 23)) (v := ?vv42) (a' := ?aa42) #[true, true, true, true, true, true, true, true, true, true, true, true, true, true, false, false, false, false, false, false, false, false, false, false, false, false, false] rfl rfl (any_of HT_.out (by kernel_rfl)) (fun _ _ _ h => h) (Or.inl ⟨by rfl, ?hy42⟩) ?ha42 ?hh42
      case hy42 => (intro w'; go_simp; try with_reducible rfl)
      case ha42 => (simp only [Act.put, List.setIfInBounds_toArray, List.set_cons_zero, List.set_cons_succ, i64_w, i32_w]; rfl)
      refine pure_ (i := 14) (N := (some 24)) (v := ?vv43) (a' := ?aa43) #[true, true, true, true, true, true, true, true, true, true, true, true, true, true, true, false, false, false, false, false, false, false, false, false, false, false, false] rfl rfl (any_of HT_.out (by kernel_rfl)) (fun _ _ _ h => h) (Or.inl ⟨by rfl, ?hy43⟩) ?ha43 ?hh43
      case hy43 => (intro w'; go_simp; try with_reducible rfl)
      case ha43 => (simp only [Act.put, List.setIfInBounds_toArray, List.set_cons_zero, List.set_cons_succ, i64_w, i32_w]; rfl)
      refine pure_ (i := 15) (N := (some 25)) (v := ?vv44) (a' := ?aa44) #[true, true, true, true, true, true, true, true, true, true, true, true, true, true, true, true, false, false, false, false, false, false, false, false, false, false, false] rfl rfl (any_of HT_.out (by kernel_rfl)) (fun _ _ _ h => h) (Or.inl ⟨by rfl, ?hy44⟩) ?ha44 ?hh44
      case hy44 => (intro w'; go_simp; try with_reducible rfl)
      case ha44 => (simp only [Act.put, List.setIfInBounds_toArray, List.set_cons_zero, List.set_cons_succ, i64_w, i32_w]; rfl)
      refine pure_ (i := 16) (N := (some 26)) (v := ?vv45) (a' := ?aa45) #[true, true, true, true, true, true, true, true, true, true, true, true, true, true, true, true, true, false, false, false, false, false, false, false, false, false, false] rfl rfl (any_of HT_.out (by kernel_rfl)) (fun _ _ _ h => h) (Or.inl ⟨by rfl, ?hy45⟩) ?ha45 ?hh45
      case hy45 => (intro w'; go_simp; try with_reducible rfl)
      case ha45 => (simp only [Act.put, List.setIfInBounds_toArray, List.set_cons_zero, List.set_cons_succ, i64_w, i32_w]; rfl)
      refine take_ (i := 17) (N := (some 27)) (v := ?vv46) (a' := ?aa46) #[true, true, true, true, true, true, true, true, true, true, true, true, true, true, true, true, true, true, false, false, false, false, false, false, false, false, false] rfl rfl (take_of HT_.out (by kernel_rfl)) (fun _ _ _ h => h) (Or.inl ⟨by rfl, ?hy46⟩) hHeld ?ha46 ?hh46
      case hy46 => (intro w' hS; obtain ⟨hS0, hS3, hS4, hSb⟩ := hS; go_simp; try with_reducible rfl)
      case ha46 => (simp only [Act.put, List.setIfInBounds_toArray, List.set_cons_zero, List.set_cons_succ, i64_w, i32_w]; rfl)
      refine pure_ (i := 20) (N := (some 30)) (v := ?vv47) (a' := ?aa47) #[true, true, true, true, true, true, true, true, true, true, true, true, true, true, true, true, true, true, false, false, true, false, false, false, false, false, false] rfl rfl (any_of HT_.out (by kernel_rfl)) (fun _ _ _ h => h) (Or.inl ⟨by rfl, ?hy47⟩) ?ha47 ?hh47
      case hy47 => (intro w'; go_simp; try with_reducible rfl)
      case ha47 => (simp only [Act.put, List.setIfInBounds_toArray, List.set_cons_zero, List.set_cons_succ, i64_w, i32_w]; rfl)
      refine take_ (i := 21) (N := (some 31)) (v := ?vv48) (a' := ?aa48) #[true, true, true, true, true, true, true, true, true, true, true, true, true, true, true, true, true, true, false, false, true, true, false, false, false, false, false] rfl rfl (take_of HT_.out (by kernel_rfl)) (fun _ _ _ h => h) (Or.inl ⟨by rfl, ?hy48⟩) hHeld ?ha48 ?hh48
      case hy48 => (intro w' hS; obtain ⟨hS0, hS3, hS4, hSb⟩ := hS; go_simp; try with_reducible rfl)
      case ha48 => (simp only [Act.put, List.setIfInBounds_toArray, List.set_cons_zero, List.set_cons_succ, i64_w, i32_w]; rfl)
      refine one_ (i := 18) (N := (some 28)) #[true, true, true, true, true, true, true, true, true, true, true, true, true, true, true, true, true, true, true, false, true, true, false, false, false, false, false] rfl rfl (one_of HT_.out (by kernel_rfl)) (by decide) (fun K hK => ?_)
      refine goes_ Tryz.func59 (by kernel_rfl) rfl #[.bool b3] (by rfl) rfl rfl (by (try simp only [List.map_toArray, List.map_cons, List.map_nil]); first | done | rfl) ?_
      refine (truth_any _ _).mono ?_
      rintro e w4 ⟨rfl, rfl⟩
      refine ⟨_, rfl, ?_⟩
      refine hK.out _ _ (hHeld) (fun hHeld => ?_)
      clear hK K
      refine norm_ (a' := ?aa49) ?ha49 ?hh49
      case ha49 => (show Act.put _ (some 28) _ = _; simp only [Act.put, List.setIfInBounds_toArray, List.set_cons_zero, List.set_cons_succ, i64_w, i32_w]; rfl)
      refine pure_ (i := 19) (N := (some 29)) (v := ?vv50) (a' := ?aa50) #[true, true, true, true, true, true, true, true, true, true, true, true, true, true, true, true, true, true, true, true, true, true, false, false, false, false, false] rfl rfl (any_of HT_.out (by kernel_rfl)) (fun _ _ _ h => h) (Or.inl ⟨by rfl, ?hy50⟩) ?ha50 ?hh50
      case hy50 => (intro w'; go_simp; try with_reducible rfl)
      case ha50 => (simp only [Act.put, List.setIfInBounds_toArray, List.set_cons_zero, List.set_cons_succ, i64_w, i32_w]; rfl)
      refine one_ (i := 22) (N := (some 32)) #[true, true, true, true, true, true, true, true, true, true, true, true, true, true, true, true, true, true, true, true, true, true, true, false, false, false, false] rfl rfl (one_of HT_.out (by kernel_rfl)) (by decide) (fun K hK => ?_)
      refine goes_ Tryz.func59 (by kernel_rfl) rfl #[.bool b4] (by rfl) rfl rfl (by (try simp only [List.map_toArray, List.map_cons, List.map_nil]); first | done | rfl) ?_
      refine (truth_any _ _).mono ?_
      rintro e w5 ⟨rfl, rfl⟩
      refine ⟨_, rfl, ?_⟩
      refine hK.out _ _ (hHeld) (fun hHeld => ?_)
      clear hK K
      refine norm_ (a' := ?aa51) ?ha51 ?hh51
      case ha51 => (show Act.put _ (some 32) _ = _; simp only [Act.put, List.setIfInBounds_toArray, List.set_cons_zero, List.set_cons_succ, i64_w, i32_w]; rfl)
      refine pure_ (i := 23) (N := (some 33)) (v := ?vv52) (a' := ?aa52) #[true, true, true, true, true, true, true, true, true, true, true, true, true, true, true, true, true, true, true, true, true, true, true, true, false, false, false] rfl rfl (any_of HT_.out (by kernel_rfl)) (fun _ _ _ h => h) (Or.inl ⟨by rfl, ?hy52⟩) ?ha52 ?hh52
      case hy52 => (intro w'; go_simp; try with_reducible rfl)
      case ha52 => (simp only [Act.put, List.setIfInBounds_toArray, List.set_cons_zero, List.set_cons_succ, i64_w, i32_w]; rfl)
      refine pure_ (i := 24) (N := (some 34)) (v := ?vv53) (a' := ?aa53) #[true, true, true, true, true, true, true, true, true, true, true, true, true, true, true, true, true, true, true, true, true, true, true, true, true, false, false] rfl rfl (any_of HT_.out (by kernel_rfl)) (fun _ _ _ h => h) (Or.inl ⟨by rfl, ?hy53⟩) ?ha53 ?hh53
      case hy53 => (intro w'; go_simp; try with_reducible rfl)
      case ha53 => (simp only [Act.put, List.setIfInBounds_toArray, List.set_cons_zero, List.set_cons_succ, i64_w, i32_w]; rfl)
      refine pure_ (i := 25) (N := (some 35)) (v := ?vv54) (a' := ?aa54) #[true, true, true, true, true, true, true, true, true, true, true, true, true, true, true, true, true, true, true, true, true, true, true, true, true, true, false] rfl rfl (any_of HT_.out (by kernel_rfl)) (fun _ _ _ h => h) (Or.inl ⟨by rfl, ?hy54⟩) ?ha54 ?hh54
      case hy54 => (intro w'; go_simp; try with_reducible rfl)
      case ha54 => (simp only [Act.put, List.setIfInBounds_toArray, List.set_cons_zero, List.set_cons_succ, i64_w, i32_w]; rfl)
      refine pure_ (i := 26) (N := (some 2)) (v := ?vv55) (a' := ?aa55) #[true, true, true, true, true, true, true, true, true, true, true, true, true, true, true, true, true, true, true, true, true, true, true, true, true, true, true] rfl rfl (any_of HT_.out (by kernel_rfl)) (fun _ _ _ h => h) (Or.inl ⟨by rfl, ?hy55⟩) ?ha55 ?hh55
      case hy55 => (intro w'; go_simp; try with_reducible rfl)
      case ha55 => (simp only [Act.put, List.setIfInBounds_toArray, List.set_cons_zero, List.set_cons_succ, i64_w, i32_w]; rfl)
      refine done_ (done_of HT_.out (by kernel_rfl)) ?_
      go_wp2
      go_ret
      have hSb := hHeld.2.2.2.1
      refine ⟨?_, below_then HB.out HB.out.size hSb⟩
      rw [HM.out, HN.out, HA.out]
      have hw := may_sum l1 l2 b3 b4 HL.out
      show Ending.returned (Value.bool (decide (wrap64 (wrap64 ((l1.length : Int) + (l2.length : Int) + truthV b3) + truthV b4) ≤ 8))) = _
      rw [hw]
      simp [HE.out]
  · have e1 : (t.toList == ([] : List UInt8)) = false := beq_eq_false_iff_ne.2 (by rw [Lib.toList_data]; exact hE)
    have e3 : (t.toList = []) = False := eq_false (by rw [Lib.toList_data]; exact hE)
    have HE := Aside0.mk hE
    clear hE
    cases bn with
    | false =>
      refine start_ (n := 27) (S := (fun W => W.cell? ⟨w.heap.size, 0, none⟩ = some (.string t) ∧ W.cell? ⟨w.heap.size, 3, none⟩ = some (.bool b3) ∧ W.cell? ⟨w.heap.size, 4, none⟩ = some (.bool b4) ∧ Since w.heap.size w' W)) (ds := []) #[false, false, false, false, false, false, false, false, false, false, false, false, false, false, false, false, false, false, false, false, false, false, false, false, false, false, false] (by kernel_rfl) rfl rfl ⟨h0, h3, h4, ⟨below_drew1 (Below.refl _ _), hsz1⟩⟩ (fun hHeld => ?_)
      refine with_tab may_tab (fun HT_ => ?_)
      refine pure_ (i := 0) (N := (some 10)) (v := ?vv57) (a' := ?aa57) #[true, false, false, false, false, false, false, false, false, false, false, false, false, false, false, false, false, false, false, false, false, false, false, false, false, false, false] rfl rfl (any_of HT_.out (by kernel_rfl)) (fun _ _ _ h => h) (Or.inl ⟨by rfl, ?hy57⟩) ?ha57 ?hh57
      case hy57 => (intro w'; go_simp; try with_reducible rfl)
      case ha57 => (simp only [Act.put, List.setIfInBounds_toArray, List.set_cons_zero, List.set_cons_succ, i64_w, i32_w]; rfl)
      refine take_ (i := 1) (N := (some 11)) (v := ?vv58) (a' := ?aa58) #[true, true, false, false, false, false, false, false, false, false, false, false, false, false, false, false, false, false, false, false, false, false, false, false, false, false, false] rfl rfl (take_of HT_.out (by kernel_rfl)) (fun _ _ _ h => h) (Or.inl ⟨by rfl, ?hy58⟩) hHeld ?ha58 ?hh58
      case hy58 => (intro w' hS; obtain ⟨hS0, hS3, hS4, hSb⟩ := hS; go_simp; try with_reducible rfl)
      case ha58 => (simp only [Act.put, List.setIfInBounds_toArray, List.set_cons_zero, List.set_cons_succ, i64_w, i32_w]; rfl)
      refine pure_ (i := 2) (N := (some 12)) (v := ?vv59) (a' := ?aa59) #[true, true, true, false, false, false, false, false, false, false, false, false, false, false, false, false, false, false, false, false, false, false, false, false, false, false, false] rfl rfl (any_of HT_.out (by kernel_rfl)) (fun _ _ _ h => h) (Or.inl ⟨by rfl, ?hy59⟩) ?ha59 ?hh59
      case hy59 => (intro w'; go_simp; try with_reducible rfl)
      case ha59 => (simp only [Act.put, List.setIfInBounds_toArray, List.set_cons_zero, List.set_cons_succ, i64_w, i32_w]; rfl)
      refine pure_ (i := 3) (N := (some 13)) (v := ?vv60) (a' := ?aa60) #[true, true, true, true, false, false, false, false, false, false, false, false, false, false, false, false, false, false, false, false, false, false, false, false, false, false, false] rfl rfl (any_of HT_.out (by kernel_rfl)) (fun _ _ _ h => h) (Or.inl ⟨by rfl, ?hy60⟩) ?ha60 ?hh60
      case hy60 => (intro w'; go_simp; try with_reducible rfl)
      case ha60 => (simp only [Act.put, List.setIfInBounds_toArray, List.set_cons_zero, List.set_cons_succ, i64_w, i32_w]; rfl)
      refine pure_ (i := 4) (N := (some 14)) (v := ?vv61) (a' := ?aa61) #[true, true, true, true, true, false, false, false, false, false, false, false, false, false, false, false, false, false, false, false, false, false, false, false, false, false, false] rfl rfl (any_of HT_.out (by kernel_rfl)) (fun _ _ _ h => h) (Or.inl ⟨by rfl, ?hy61⟩) ?ha61 ?hh61
      case hy61 => (intro w'; go_simp; try with_reducible rfl)
      case ha61 => (simp only [Act.put, List.setIfInBounds_toArray, List.set_cons_zero, List.set_cons_succ, i64_w, i32_w]; rfl)
      refine take_ (i := 5) (N := (some 15)) (v := ?vv62) (a' := ?aa62) #[true, true, true, true, true, true, false, false, false, false, false, false, false, false, false, false, false, false, false, false, false, false, false, false, false, false, false] rfl rfl (take_of HT_.out (by kernel_rfl)) (fun _ _ _ h => h) (Or.inl ⟨by rfl, ?hy62⟩) hHeld ?ha62 ?hh62
      case hy62 => (intro w' hS; obtain ⟨hS0, hS3, hS4, hSb⟩ := hS; go_simp; try with_reducible rfl)
      case ha62 => (simp only [Act.put, List.setIfInBounds_toArray, List.set_cons_zero, List.set_cons_succ, i64_w, i32_w]; rfl)
      refine one_ (i := 6) (N := (some 16)) #[true, true, true, true, true, true, true, false, false, false, false, false, false, false, false, false, false, false, false, false, false, false, false, false, false, false, false] rfl rfl (one_of HT_.out (by kernel_rfl)) (by decide) (fun K hK => ?_)
      refine goes_ Tryz.func94 (by kernel_rfl) rfl #[.string t] (by rfl) rfl rfl (by (try simp only [List.map_toArray, List.map_cons, List.map_nil]); first | done | rfl) ?_
      refine (hnm _).mono ?_
      rintro e w2 ⟨rfl, hB2⟩
      refine ⟨_, rfl, ?_⟩
      refine hK.out _ _ (held_next hHeld hB2) (fun hHeld => ?_)
      clear hK K
      refine norm_ (a' := ?aa63) ?ha63 ?hh63
      case ha63 => (show Act.put _ (some 16) _ = _; simp only [Act.put, List.setIfInBounds_toArray, List.set_cons_zero, List.set_cons_succ, i64_w, i32_w]; rfl)
      refine pure_ (i := 7) (N := (some 17)) (v := ?vv64) (a' := ?aa64) #[true, true, true, true, true, true, true, true, false, false, false, false, false, false, false, false, false, false, false, false, false, false, false, false, false, false, false] rfl rfl (any_of HT_.out (by kernel_rfl)) (fun _ _ _ h => h) (Or.inl ⟨by rfl, ?hy64⟩) ?ha64 ?hh64
      case hy64 => (intro w'; go_simp; try with_reducible rfl)
      case ha64 => (simp only [Act.put, List.setIfInBounds_toArray, List.set_cons_zero, List.set_cons_succ, i64_w, i32_w]; rfl)
      refine pure_ (i := 8) (N := (some 18)) (v := ?vv65) (a' := ?aa65) #[true, true, true, true, true, true, true, true, true, false, false, false, false, false, false, false, false, false, false, false, false, false, false, false, false, false, false] rfl rfl (any_of HT_.out (by kernel_rfl)) (fun _ _ _ h => h) (Or.inl ⟨by rfl, ?hy65⟩) ?ha65 ?hh65
      case hy65 => (intro w'; go_simp; try with_reducible rfl)
      case ha65 => (simp only [Act.put, List.setIfInBounds_toArray, List.set_cons_zero, List.set_cons_succ, i64_w, i32_w]; rfl)
      refine pure_ (i := 9) (N := (some 19)) (v := undef) (a' := ?aa66) #[true, true, true, true, true, true, true, true, true, true, false, false, false, false, false, false, false, false, false, false, false, false, false, false, false, false, false] rfl rfl (any_of HT_.out (by kernel_rfl)) (fun _ _ _ h => h) (Or.inr ⟨by rfl, rfl⟩) ?ha66 ?hh66
      case ha66 => (simp only [Act.put, List.setIfInBounds_toArray, List.set_cons_zero, List.set_cons_succ, i64_w, i32_w]; rfl)
      refine pure_ (i := 10) (N := (some 20)) (v := undef) (a' := ?aa67) #[true, true, true, true, true, true, true, true, true, true, true, false, false, false, false, false, false, false, false, false, false, false, false, false, false, false, false] rfl rfl (any_of HT_.out (by kernel_rfl)) (fun _ _ _ h => h) (Or.inr ⟨by rfl, rfl⟩) ?ha67 ?hh67
      case ha67 => (simp only [Act.put, List.setIfInBounds_toArray, List.set_cons_zero, List.set_cons_succ, i64_w, i32_w]; rfl)
      refine pure_ (i := 11) (N := (some 21)) (v := undef) (a' := ?aa68) #[true, true, true, true, true, true, true, true, true, true, true, true, false, false, false, false, false, false, false, false, false, false, false, false, false, false, false] rfl rfl (any_of HT_.out (by kernel_rfl)) (fun _ _ _ h => h) (Or.inr ⟨by rfl, rfl⟩) ?ha68 ?hh68
      case ha68 => (simp only [Act.put, List.setIfInBounds_toArray, List.set_cons_zero, List.set_cons_succ, i64_w, i32_w]; rfl)
      refine pure_ (i := 12) (N := (some 22)) (v := ?vv69) (a' := ?aa69) #[true, true, true, true, true, true, true, true, true, true, true, true, true, false, false, false, false, false, false, false, false, false, false, false, false, false, false] rfl rfl (any_of HT_.out (by kernel_rfl)) (fun _ _ _ h => h) (Or.inl ⟨by rfl, ?hy69⟩) ?ha69 ?hh69
      case hy69 => (intro w'; go_simp; try with_reducible rfl)
      case ha69 => (simp only [Act.put, List.setIfInBounds_toArray, List.set_cons_zero, List.set_cons_succ, i64_w, i32_w]; rfl)
      refine pure_ (i := 13) (N := (some 23)) (v := ?vv70) (a' := ?aa70) #[true, true, true, true, true, true, true, true, true, true, true, true, true, true, false, false, false, false, false, false, false, false, false, false, false, false, false] rfl rfl (any_of HT_.out (by kernel_rfl)) (fun _ _ _ h => h) (Or.inl ⟨by rfl, ?hy70⟩) ?ha70 ?hh70
      case hy70 => (intro w'; go_simp; try with_reducible rfl)
      case ha70 => (simp only [Act.put, List.setIfInBounds_toArray, List.set_cons_zero, List.set_cons_succ, i64_w, i32_w]; rfl)
      refine pure_ (i := 14) (N := (some 24)) (v := undef) (a' := ?aa71) #[true, true, true, true, true, true, true, true, true, true, true, true, true, true, true, false, false, false, false, false, false, false, false, false, false, false, false] rfl rfl (any_of HT_.out (by kernel_rfl)) (fun _ _ _ h => h) (Or.inr ⟨by rfl, rfl⟩) ?ha71 ?hh71
      case ha71 => (simp only [Act.put, List.setIfInBounds_toArray, List.set_cons_zero, List.set_cons_succ, i64_w, i32_w]; rfl)
      refine pure_ (i := 15) (N := (some 25)) (v := undef) (a' := ?aa72) #[true, true, true, true, true, true, true, true, true, true, true, true, true, true, true, true, false, false, false, false, false, false, false, false, false, false, false] rfl rfl (any_of HT_.out (by kernel_rfl)) (fun _ _ _ h => h) (Or.inr ⟨by rfl, rfl⟩) ?ha72 ?hh72
      case ha72 => (simp only [Act.put, List.setIfInBounds_toArray, List.set_cons_zero, List.set_cons_succ, i64_w, i32_w]; rfl)
      refine pure_ (i := 16) (N := (some 26)) (v := undef) (a' := ?aa73) #[true, true, true, true, true, true, true, true, true, true, true, true, true, true, true, true, true, false, false, false, false, false, false, false, false, false, false] rfl rfl (any_of HT_.out (by kernel_rfl)) (fun _ _ _ h => h) (Or.inr ⟨by rfl, rfl⟩) ?ha73 ?hh73
      case ha73 => (simp only [Act.put, List.setIfInBounds_toArray, List.set_cons_zero, List.set_cons_succ, i64_w, i32_w]; rfl)
      refine pure_ (i := 17) (N := (some 27)) (v := undef) (a' := ?aa74) #[true, true, true, true, true, true, true, true, true, true, true, true, true, true, true, true, true, true, false, false, false, false, false, false, false, false, false] rfl rfl (any_of HT_.out (by kernel_rfl)) (fun _ _ _ h => h) (Or.inr ⟨by rfl, rfl⟩) ?ha74 ?hh74
      case ha74 => (simp only [Act.put, List.setIfInBounds_toArray, List.set_cons_zero, List.set_cons_succ, i64_w, i32_w]; rfl)
      refine pure_ (i := 18) (N := (some 28)) (v := undef) (a' := ?aa75) #[true, true, true, true, true, true, true, true, true, true, true, true, true, true, true, true, true, true, true, false, false, false, false, false, false, false, false] rfl rfl (any_of HT_.out (by kernel_rfl)) (fun _ _ _ h => h) (Or.inr ⟨by rfl, rfl⟩) ?ha75 ?hh75
      case ha75 => (simp only [Act.put, List.setIfInBounds_toArray, List.set_cons_zero, List.set_cons_succ, i64_w, i32_w]; rfl)
      refine pure_ (i := 19) (N := (some 29)) (v := undef) (a' := ?aa76) #[true, true, true, true, true, true, true, true, true, true, true, true, true, true, true, true, true, true, true, true, false, false, false, false, false, false, false] rfl rfl (any_of HT_.out (by kernel_rfl)) (fun _ _ _ h => h) (Or.inr ⟨by rfl, rfl⟩) ?ha76 ?hh76
      case ha76 => (simp only [Act.put, List.setIfInBounds_toArray, List.set_cons_zero, List.set_cons_succ, i64_w, i32_w]; rfl)
      refine pure_ (i := 20) (N := (some 30)) (v := undef) (a' := ?aa77) #[true, true, true, true, true, true, true, true, true, true, true, true, true, true, true, true, true, true, true, true, true, false, false, false, false, false, false] rfl rfl (any_of HT_.out (by kernel_rfl)) (fun _ _ _ h => h) (Or.inr ⟨by rfl, rfl⟩) ?ha77 ?hh77
      case ha77 => (simp only [Act.put, List.setIfInBounds_toArray, List.set_cons_zero, List.set_cons_succ, i64_w, i32_w]; rfl)
      refine pure_ (i := 21) (N := (some 31)) (v := undef) (a' := ?aa78) #[true, true, true, true, true, true, true, true, true, true, true, true, true, true, true, true, true, true, true, true, true, true, false, false, false, false, false] rfl rfl (any_of HT_.out (by kernel_rfl)) (fun _ _ _ h => h) (Or.inr ⟨by rfl, rfl⟩) ?ha78 ?hh78
      case ha78 => (simp only [Act.put, List.setIfInBounds_toArray, List.set_cons_zero, List.set_cons_succ, i64_w, i32_w]; rfl)
      refine pure_ (i := 22) (N := (some 32)) (v := undef) (a' := ?aa79) #[true, true, true, true, true, true, true, true, true, true, true, true, true, true, true, true, true, true, true, true, true, true, true, false, false, false, false] rfl rfl (any_of HT_.out (by kernel_rfl)) (fun _ _ _ h => h) (Or.inr ⟨by rfl, rfl⟩) ?ha79 ?hh79
      case ha79 => (simp only [Act.put, List.setIfInBounds_toArray, List.set_cons_zero, List.set_cons_succ, i64_w, i32_w]; rfl)
      refine pure_ (i := 23) (N := (some 33)) (v := undef) (a' := ?aa80) #[true, true, true, true, true, true, true, true, true, true, true, true, true, true, true, true, true, true, true, true, true, true, true, true, false, false, false] rfl rfl (any_of HT_.out (by kernel_rfl)) (fun _ _ _ h => h) (Or.inr ⟨by rfl, rfl⟩) ?ha80 ?hh80
      case ha80 => (simp only [Act.put, List.setIfInBounds_toArray, List.set_cons_zero, List.set_cons_succ, i64_w, i32_w]; rfl)
      refine pure_ (i := 24) (N := (some 34)) (v := undef) (a' := ?aa81) #[true, true, true, true, true, true, true, true, true, true, true, true, true, true, true, true, true, true, true, true, true, true, true, true, true, false, false] rfl rfl (any_of HT_.out (by kernel_rfl)) (fun _ _ _ h => h) (Or.inr ⟨by rfl, rfl⟩) ?ha81 ?hh81
      case ha81 => (simp only [Act.put, List.setIfInBounds_toArray, List.set_cons_zero, List.set_cons_succ, i64_w, i32_w]; rfl)
      refine pure_ (i := 25) (N := (some 35)) (v := ?vv82) (a' := ?aa82) #[true, true, true, true, true, true, true, true, true, true, true, true, true, true, true, true, true, true, true, true, true, true, true, true, true, true, false] rfl rfl (any_of HT_.out (by kernel_rfl)) (fun _ _ _ h => h) (Or.inl ⟨by rfl, ?hy82⟩) ?ha82 ?hh82
      case hy82 => (intro w'; go_simp; try with_reducible rfl)
      case ha82 => (simp only [Act.put, List.setIfInBounds_toArray, List.set_cons_zero, List.set_cons_succ, i64_w, i32_w]; rfl)
      refine pure_ (i := 26) (N := (some 2)) (v := ?vv83) (a' := ?aa83) #[true, true, true, true, true, true, true, true, true, true, true, true, true, true, true, true, true, true, true, true, true, true, true, true, true, true, true] rfl rfl (any_of HT_.out (by kernel_rfl)) (fun _ _ _ h => h) (Or.inl ⟨by rfl, ?hy83⟩) ?ha83 ?hh83
      case hy83 => (intro w'; go_simp; try with_reducible rfl)
      case ha83 => (simp only [Act.put, List.setIfInBounds_toArray, List.set_cons_zero, List.set_cons_succ, i64_w, i32_w]; rfl)
      refine done_ (done_of HT_.out (by kernel_rfl)) ?_
      go_wp2
      go_ret
      have hSb := hHeld.2.2.2.1
      refine ⟨?_, below_then HB.out HB.out.size hSb⟩
      rw [HM.out, HN.out, HA.out]
      show Ending.returned (Value.bool false) = _
      simp [HE.out]
    | true =>
      cases ba with
      | true =>
        refine start_ (n := 27) (S := (fun W => W.cell? ⟨w.heap.size, 0, none⟩ = some (.string t) ∧ W.cell? ⟨w.heap.size, 3, none⟩ = some (.bool b3) ∧ W.cell? ⟨w.heap.size, 4, none⟩ = some (.bool b4) ∧ Since w.heap.size w' W)) (ds := []) #[false, false, false, false, false, false, false, false, false, false, false, false, false, false, false, false, false, false, false, false, false, false, false, false, false, false, false] (by kernel_rfl) rfl rfl ⟨h0, h3, h4, ⟨below_drew1 (Below.refl _ _), hsz1⟩⟩ (fun hHeld => ?_)
        refine with_tab may_tab (fun HT_ => ?_)
        refine pure_ (i := 0) (N := (some 10)) (v := ?vv85) (a' := ?aa85) #[true, false, false, false, false, false, false, false, false, false, false, false, false, false, false, false, false, false, false, false, false, false, false, false, false, false, false] rfl rfl (any_of HT_.out (by kernel_rfl)) (fun _ _ _ h => h) (Or.inl ⟨by rfl, ?hy85⟩) ?ha85 ?hh85
        case hy85 => (intro w'; go_simp; try with_reducible rfl)
        case ha85 => (simp only [Act.put, List.setIfInBounds_toArray, List.set_cons_zero, List.set_cons_succ, i64_w, i32_w]; rfl)
        refine take_ (i := 1) (N := (some 11)) (v := ?vv86) (a' := ?aa86) #[true, true, false, false, false, false, false, false, false, false, false, false, false, false, false, false, false, false, false, false, false, false, false, false, false, false, false] rfl rfl (take_of HT_.out (by kernel_rfl)) (fun _ _ _ h => h) (Or.inl ⟨by rfl, ?hy86⟩) hHeld ?ha86 ?hh86
        case hy86 => (intro w' hS; obtain ⟨hS0, hS3, hS4, hSb⟩ := hS; go_simp; try with_reducible rfl)
        case ha86 => (simp only [Act.put, List.setIfInBounds_toArray, List.set_cons_zero, List.set_cons_succ, i64_w, i32_w]; rfl)
        refine pure_ (i := 2) (N := (some 12)) (v := ?vv87) (a' := ?aa87) #[true, true, true, false, false, false, false, false, false, false, false, false, false, false, false, false, false, false, false, false, false, false, false, false, false, false, false] rfl rfl (any_of HT_.out (by kernel_rfl)) (fun _ _ _ h => h) (Or.inl ⟨by rfl, ?hy87⟩) ?ha87 ?hh87
        case hy87 => (intro w'; go_simp; try with_reducible rfl)
        case ha87 => (simp only [Act.put, List.setIfInBounds_toArray, List.set_cons_zero, List.set_cons_succ, i64_w, i32_w]; rfl)
        refine pure_ (i := 3) (N := (some 13)) (v := ?vv88) (a' := ?aa88) #[true, true, true, true, false, false, false, false, false, false, false, false, false, false, false, false, false, false, false, false, false, false, false, false, false, false, false] rfl rfl (any_of HT_.out (by kernel_rfl)) (fun _ _ _ h => h) (Or.inl ⟨by rfl, ?hy88⟩) ?ha88 ?hh88
        case hy88 => (intro w'; go_simp; try with_reducible rfl)
        case ha88 => (simp only [Act.put, List.setIfInBounds_toArray, List.set_cons_zero, List.set_cons_succ, i64_w, i32_w]; rfl)
        refine pure_ (i := 4) (N := (some 14)) (v := ?vv89) (a' := ?aa89) #[true, true, true, true, true, false, false, false, false, false, false, false, false, false, false, false, false, false, false, false, false, false, false, false, false, false, false] rfl rfl (any_of HT_.out (by kernel_rfl)) (fun _ _ _ h => h) (Or.inl ⟨by rfl, ?hy89⟩) ?ha89 ?hh89
        case hy89 => (intro w'; go_simp; try with_reducible rfl)
        case ha89 => (simp only [Act.put, List.setIfInBounds_toArray, List.set_cons_zero, List.set_cons_succ, i64_w, i32_w]; rfl)
        refine take_ (i := 5) (N := (some 15)) (v := ?vv90) (a' := ?aa90) #[true, true, true, true, true, true, false, false, false, false, false, false, false, false, false, false, false, false, false, false, false, false, false, false, false, false, false] rfl rfl (take_of HT_.out (by kernel_rfl)) (fun _ _ _ h => h) (Or.inl ⟨by rfl, ?hy90⟩) hHeld ?ha90 ?hh90
        case hy90 => (intro w' hS; obtain ⟨hS0, hS3, hS4, hSb⟩ := hS; go_simp; try with_reducible rfl)
        case ha90 => (simp only [Act.put, List.setIfInBounds_toArray, List.set_cons_zero, List.set_cons_succ, i64_w, i32_w]; rfl)
        refine one_ (i := 6) (N := (some 16)) #[true, true, true, true, true, true, true, false, false, false, false, false, false, false, false, false, false, false, false, false, false, false, false, false, false, false, false] rfl rfl (one_of HT_.out (by kernel_rfl)) (by decide) (fun K hK => ?_)
        refine goes_ Tryz.func94 (by kernel_rfl) rfl #[.string t] (by rfl) rfl rfl (by (try simp only [List.map_toArray, List.map_cons, List.map_nil]); first | done | rfl) ?_
        refine (hnm _).mono ?_
        rintro e w2 ⟨rfl, hB2⟩
        refine ⟨_, rfl, ?_⟩
        refine hK.out _ _ (held_next hHeld hB2) (fun hHeld => ?_)
        clear hK K
        refine norm_ (a' := ?aa91) ?ha91 ?hh91
        case ha91 => (show Act.put _ (some 16) _ = _; simp only [Act.put, List.setIfInBounds_toArray, List.set_cons_zero, List.set_cons_succ, i64_w, i32_w]; rfl)
        refine pure_ (i := 7) (N := (some 17)) (v := ?vv92) (a' := ?aa92) #[true, true, true, true, true, true, true, true, false, false, false, false, false, false, false, false, false, false, false, false, false, false, false, false, false, false, false] rfl rfl (any_of HT_.out (by kernel_rfl)) (fun _ _ _ h => h) (Or.inl ⟨by rfl, ?hy92⟩) ?ha92 ?hh92
        case hy92 => (intro w'; go_simp; try with_reducible rfl)
        case ha92 => (simp only [Act.put, List.setIfInBounds_toArray, List.set_cons_zero, List.set_cons_succ, i64_w, i32_w]; rfl)
        refine pure_ (i := 8) (N := (some 18)) (v := ?vv93) (a' := ?aa93) #[true, true, true, true, true, true, true, true, true, false, false, false, false, false, false, false, false, false, false, false, false, false, false, false, false, false, false] rfl rfl (any_of HT_.out (by kernel_rfl)) (fun _ _ _ h => h) (Or.inl ⟨by rfl, ?hy93⟩) ?ha93 ?hh93
        case hy93 => (intro w'; go_simp; try with_reducible rfl)
        case ha93 => (simp only [Act.put, List.setIfInBounds_toArray, List.set_cons_zero, List.set_cons_succ, i64_w, i32_w]; rfl)
        refine pure_ (i := 9) (N := (some 19)) (v := ?vv94) (a' := ?aa94) #[true, true, true, true, true, true, true, true, true, true, false, false, false, false, false, false, false, false, false, false, false, false, false, false, false, false, false] rfl rfl (any_of HT_.out (by kernel_rfl)) (fun _ _ _ h => h) (Or.inl ⟨by rfl, ?hy94⟩) ?ha94 ?hh94
        case hy94 => (intro w'; go_simp; try with_reducible rfl)
        case ha94 => (simp only [Act.put, List.setIfInBounds_toArray, List.set_cons_zero, List.set_cons_succ, i64_w, i32_w]; rfl)
        refine one_ (i := 10) (N := (some 20)) #[true, true, true, true, true, true, true, true, true, true, true, false, false, false, false, false, false, false, false, false, false, false, false, false, false, false, false] rfl rfl (one_of HT_.out (by kernel_rfl)) (by decide) (fun K hK => ?_)
        refine goes_ Tryz.func95 (by kernel_rfl) rfl #[.slice A3 (l1.length + l2.length) c3, .func (.func 96) #[] #[]] (by rfl) rfl rfl (by (try simp only [List.map_toArray, List.map_cons, List.map_nil]); first | done | rfl) ?_
        refine (hcf _ hHeld).mono ?_
        rintro e w3 ⟨rfl, hB3⟩
        refine ⟨_, rfl, ?_⟩
        refine hK.out _ _ (held_next hHeld hB3) (fun hHeld => ?_)
        clear hK K
        refine norm_ (a' := ?aa95) ?ha95 ?hh95
        case ha95 => (show Act.put _ (some 20) _ = _; simp only [Act.put, List.setIfInBounds_toArray, List.set_cons_zero, List.set_cons_succ, i64_w, i32_w]; rfl)
        refine pure_ (i := 11) (N := (some 21)) (v := ?vv96) (a' := ?aa96) #[true, true, true, true, true, true, true, true, true, true, true, true, false, false, false, false, false, false, false, false, false, false, false, false, false, false, false] rfl rfl (any_of HT_.out (by kernel_rfl)) (fun _ _ _ h => h) (Or.inl ⟨by rfl, ?hy96⟩) ?ha96 ?hh96
        case hy96 => (intro w'; go_simp; try with_reducible rfl)
        case ha96 => (simp only [Act.put, List.setIfInBounds_toArray, List.set_cons_zero, List.set_cons_succ, i64_w, i32_w]; rfl)
        refine pure_ (i := 12) (N := (some 22)) (v := ?vv97) (a' := ?aa97) #[true, true, true, true, true, true, true, true, true, true, true, true, true, false, false, false, false, false, false, false, false, false, false, false, false, false, false] rfl rfl (any_of HT_.out (by kernel_rfl)) (fun _ _ _ h => h) (Or.inl ⟨by rfl, ?hy97⟩) ?ha97 ?hh97
        case hy97 => (intro w'; go_simp; try with_reducible rfl)
        case ha97 => (simp only [Act.put, List.setIfInBounds_toArray, List.set_cons_zero, List.set_cons_succ, i64_w, i32_w]; rfl)
        refine pure_ (i := 13) (N := (some 23)) (v := ?vv98) (a' := ?aa98) #[true, true, true, true, true, true, true, true, true, true, true, true, true, true, false, false, false, false, false, false, false, false, false, false, false, false, false] rfl rfl (any_of HT_.out (by kernel_rfl)) (fun _ _ _ h => h) (Or.inl ⟨by rfl, ?hy98⟩) ?ha98 ?hh98
        case hy98 => (intro w'; go_simp; try with_reducible rfl)
        case ha98 => (simp only [Act.put, List.setIfInBounds_toArray, List.set_cons_zero, List.set_cons_succ, i64_w, i32_w]; rfl)
        refine pure_ (i := 14) (N := (some 24)) (v := undef) (a' := ?aa99) #[true, true, true, true, true, true, true, true, true, true, true, true, true, true, true, false, false, false, false, false, false, false, false, false, false, false, false] rfl rfl (any_of HT_.out (by kernel_rfl)) (fun _ _ _ h => h) (Or.inr ⟨by rfl, rfl⟩) ?ha99 ?hh99
        case ha99 => (simp only [Act.put, List.setIfInBounds_toArray, List.set_cons_zero, List.set_cons_succ, i64_w, i32_w]; rfl)
        refine pure_ (i := 15) (N := (some 25)) (v := undef) (a' := ?aa100) #[true, true, true, true, true, true, true, true, true, true, true, true, true, true, true, true, false, false, false, false, false, false, false, false, false, false, false] rfl rfl (any_of HT_.out (by kernel_rfl)) (fun _ _ _ h => h) (Or.inr ⟨by rfl, rfl⟩) ?ha100 ?hh100
        case ha100 => (simp only [Act.put, List.setIfInBounds_toArray, List.set_cons_zero, List.set_cons_succ, i64_w, i32_w]; rfl)
        refine pure_ (i := 16) (N := (some 26)) (v := undef) (a' := ?aa101) #[true, true, true, true, true, true, true, true, true, true, true, true, true, true, true, true, true, false, false, false, false, false, false, false, false, false, false] rfl rfl (any_of HT_.out (by kernel_rfl)) (fun _ _ _ h => h) (Or.inr ⟨by rfl, rfl⟩) ?ha101 ?hh101
        case ha101 => (simp only [Act.put, List.setIfInBounds_toArray, List.set_cons_zero, List.set_cons_succ, i64_w, i32_w]; rfl)
        refine pure_ (i := 17) (N := (some 27)) (v := undef) (a' := ?aa102) #[true, true, true, true, true, true, true, true, true, true, true, true, true, true, true, true, true, true, false, false, false, false, false, false, false, false, false] rfl rfl (any_of HT_.out (by kernel_rfl)) (fun _ _ _ h => h) (Or.inr ⟨by rfl, rfl⟩) ?ha102 ?hh102
        case ha102 => (simp only [Act.put, List.setIfInBounds_toArray, List.set_cons_zero, List.set_cons_succ, i64_w, i32_w]; rfl)
        refine pure_ (i := 18) (N := (some 28)) (v := undef) (a' := ?aa103) #[true, true, true, true, true, true, true, true, true, true, true, true, true, true, true, true, true, true, true, false, false, false, false, false, false, false, false] rfl rfl (any_of HT_.out (by kernel_rfl)) (fun _ _ _ h => h) (Or.inr ⟨by rfl, rfl⟩) ?ha103 ?hh103
        case ha103 => (simp only [Act.put, List.setIfInBounds_toArray, List.set_cons_zero, List.set_cons_succ, i64_w, i32_w]; rfl)
        refine pure_ (i := 19) (N := (some 29)) (v := undef) (a' := ?aa104) #[true, true, true, true, true, true, true, true, true, true, true, true, true, true, true, true, true, true, true, true, false, false, false, false, false, false, false] rfl rfl (any_of HT_.out (by kernel_rfl)) (fun _ _ _ h => h) (Or.inr ⟨by rfl, rfl⟩) ?ha104 ?hh104
        case ha104 => (simp only [Act.put, List.setIfInBounds_toArray, List.set_cons_zero, List.set_cons_succ, i64_w, i32_w]; rfl)
        refine pure_ (i := 20) (N := (some 30)) (v := undef) (a' := ?aa105) #[true, true, true, true, true, true, true, true, true, true, true, true, true, true, true, true, true, true, true, true, true, false, false, false, false, false, false] rfl rfl (any_of HT_.out (by kernel_rfl)) (fun _ _ _ h => h) (Or.inr ⟨by rfl, rfl⟩) ?ha105 ?hh105
        case ha105 => (simp only [Act.put, List.setIfInBounds_toArray, List.set_cons_zero, List.set_cons_succ, i64_w, i32_w]; rfl)
        refine pure_ (i := 21) (N := (some 31)) (v := undef) (a' := ?aa106) #[true, true, true, true, true, true, true, true, true, true, true, true, true, true, true, true, true, true, true, true, true, true, false, false, false, false, false] rfl rfl (any_of HT_.out (by kernel_rfl)) (fun _ _ _ h => h) (Or.inr ⟨by rfl, rfl⟩) ?ha106 ?hh106
        case ha106 => (simp only [Act.put, List.setIfInBounds_toArray, List.set_cons_zero, List.set_cons_succ, i64_w, i32_w]; rfl)
        refine pure_ (i := 22) (N := (some 32)) (v := undef) (a' := ?aa107) #[true, true, true, true, true, true, true, true, true, true, true, true, true, true, true, true, true, true, true, true, true, true, true, false, false, false, false] rfl rfl (any_of HT_.out (by kernel_rfl)) (fun _ _ _ h => h) (Or.inr ⟨by rfl, rfl⟩) ?ha107 ?hh107
        case ha107 => (simp only [Act.put, List.setIfInBounds_toArray, List.set_cons_zero, List.set_cons_succ, i64_w, i32_w]; rfl)
        refine pure_ (i := 23) (N := (some 33)) (v := undef) (a' := ?aa108) #[true, true, true, true, true, true, true, true, true, true, true, true, true, true, true, true, true, true, true, true, true, true, true, true, false, false, false] rfl rfl (any_of HT_.out (by kernel_rfl)) (fun _ _ _ h => h) (Or.inr ⟨by rfl, rfl⟩) ?ha108 ?hh108
        case ha108 => (simp only [Act.put, List.setIfInBounds_toArray, List.set_cons_zero, List.set_cons_succ, i64_w, i32_w]; rfl)
        refine pure_ (i := 24) (N := (some 34)) (v := undef) (a' := ?aa109) #[true, true, true, true, true, true, true, true, true, true, true, true, true, true, true, true, true, true, true, true, true, true, true, true, true, false, false] rfl rfl (any_of HT_.out (by kernel_rfl)) (fun _ _ _ h => h) (Or.inr ⟨by rfl, rfl⟩) ?ha109 ?hh109
        case ha109 => (simp only [Act.put, List.setIfInBounds_toArray, List.set_cons_zero, List.set_cons_succ, i64_w, i32_w]; rfl)
        refine pure_ (i := 25) (N := (some 35)) (v := ?vv110) (a' := ?aa110) #[true, true, true, true, true, true, true, true, true, true, true, true, true, true, true, true, true, true, true, true, true, true, true, true, true, true, false] rfl rfl (any_of HT_.out (by kernel_rfl)) (fun _ _ _ h => h) (Or.inl ⟨by rfl, ?hy110⟩) ?ha110 ?hh110
        case hy110 => (intro w'; go_simp; try with_reducible rfl)
        case ha110 => (simp only [Act.put, List.setIfInBounds_toArray, List.set_cons_zero, List.set_cons_succ, i64_w, i32_w]; rfl)
        refine pure_ (i := 26) (N := (some 2)) (v := ?vv111) (a' := ?aa111) #[true, true, true, true, true, true, true, true, true, true, true, true, true, true, true, true, true, true, true, true, true, true, true, true, true, true, true] rfl rfl (any_of HT_.out (by kernel_rfl)) (fun _ _ _ h => h) (Or.inl ⟨by rfl, ?hy111⟩) ?ha111 ?hh111
        case hy111 => (intro w'; go_simp; try with_reducible rfl)
        case ha111 => (simp only [Act.put, List.setIfInBounds_toArray, List.set_cons_zero, List.set_cons_succ, i64_w, i32_w]; rfl)
        refine done_ (done_of HT_.out (by kernel_rfl)) ?_
        go_wp2
        go_ret
        have hSb := hHeld.2.2.2.1
        refine ⟨?_, below_then HB.out HB.out.size hSb⟩
        rw [HM.out, HN.out, HA.out]
        show Ending.returned (Value.bool false) = _
        simp [HE.out]
      | false =>
        refine start_ (n := 27) (S := (fun W => W.cell? ⟨w.heap.size, 0, none⟩ = some (.string t) ∧ W.cell? ⟨w.heap.size, 3, none⟩ = some (.bool b3) ∧ W.cell? ⟨w.heap.size, 4, none⟩ = some (.bool b4) ∧ Since w.heap.size w' W)) (ds := []) #[false, false, false, false, false, false, false, false, false, false, false, false, false, false, false, false, false, false, false, false, false, false, false, false, false, false, false] (by kernel_rfl) rfl rfl ⟨h0, h3, h4, ⟨below_drew1 (Below.refl _ _), hsz1⟩⟩ (fun hHeld => ?_)
        refine with_tab may_tab (fun HT_ => ?_)
        refine pure_ (i := 0) (N := (some 10)) (v := ?vv113) (a' := ?aa113) #[true, false, false, false, false, false, false, false, false, false, false, false, false, false, false, false, false, false, false, false, false, false, false, false, false, false, false] rfl rfl (any_of HT_.out (by kernel_rfl)) (fun _ _ _ h => h) (Or.inl ⟨by rfl, ?hy113⟩) ?ha113 ?hh113
        case hy113 => (intro w'; go_simp; try with_reducible rfl)
        case ha113 => (simp only [Act.put, List.setIfInBounds_toArray, List.set_cons_zero, List.set_cons_succ, i64_w, i32_w]; rfl)
        refine take_ (i := 1) (N := (some 11)) (v := ?vv114) (a' := ?aa114) #[true, true, false, false, false, false, false, false, false, false, false, false, false, false, false, false, false, false, false, false, false, false, false, false, false, false, false] rfl rfl (take_of HT_.out (by kernel_rfl)) (fun _ _ _ h => h) (Or.inl ⟨by rfl, ?hy114⟩) hHeld ?ha114 ?hh114
        case hy114 => (intro w' hS; obtain ⟨hS0, hS3, hS4, hSb⟩ := hS; go_simp; try with_reducible rfl)
        case ha114 => (simp only [Act.put, List.setIfInBounds_toArray, List.set_cons_zero, List.set_cons_succ, i64_w, i32_w]; rfl)
        refine pure_ (i := 2) (N := (some 12)) (v := ?vv115) (a' := ?aa115) #[true, true, true, false, false, false, false, false, false, false, false, false, false, false, false, false, false, false, false, false, false, false, false, false, false, false, false] rfl rfl (any_of HT_.out (by kernel_rfl)) (fun _ _ _ h => h) (Or.inl ⟨by rfl, ?hy115⟩) ?ha115 ?hh115
        case hy115 => (intro w'; go_simp; try with_reducible rfl)
        case ha115 => (simp only [Act.put, List.setIfInBounds_toArray, List.set_cons_zero, List.set_cons_succ, i64_w, i32_w]; rfl)
        refine pure_ (i := 3) (N := (some 13)) (v := ?vv116) (a' := ?aa116) #[true, true, true, true, false, false, false, false, false, false, false, false, false, false, false, false, false, false, false, false, false, false, false, false, false, false, false] rfl rfl (any_of HT_.out (by kernel_rfl)) (fun _ _ _ h => h) (Or.inl ⟨by rfl, ?hy116⟩) ?ha116 ?hh116
        case hy116 => (intro w'; go_simp; try with_reducible rfl)
        case ha116 => (simp only [Act.put, List.setIfInBounds_toArray, List.set_cons_zero, List.set_cons_succ, i64_w, i32_w]; rfl)
        refine pure_ (i := 4) (N := (some 14)) (v := ?vv117) (a' := ?aa117) #[true, true, true, true, true, false, false, false, false, false, false, false, false, false, false, false, false, false, false, false, false, false, false, false, false, false, false] rfl rfl (any_of HT_.out (by kernel_rfl)) (fun _ _ _ h => h) (Or.inl ⟨by rfl, ?hy117⟩) ?ha117 ?hh117
        case hy117 => (intro w'; go_simp; try with_reducible rfl)
        case ha117 => (simp only [Act.put, List.setIfInBounds_toArray, List.set_cons_zero, List.set_cons_succ, i64_w, i32_w]; rfl)
        refine take_ (i := 5) (N := (some 15)) (v := ?vv118) (a' := ?aa118) #[true, true, true, true, true, true, false, false, false, false, false, false, false, false, false, false, false, false, false, false, false, false, false, false, false, false, false] rfl rfl (take_of HT_.out (by kernel_rfl)) (fun _ _ _ h => h) (Or.inl ⟨by rfl, ?hy118⟩) hHeld ?ha118 ?hh118
        case hy118 => (intro w' hS; obtain ⟨hS0, hS3, hS4, hSb⟩ := hS; go_simp; try with_reducible rfl)
        case ha118 => (simp only [Act.put, List.setIfInBounds_toArray, List.set_cons_zero, List.set_cons_succ, i64_w, i32_w]; rfl)
        refine one_ (i := 6) (N := (some 16)) #[true, true, true, true, true, true, true, false, false, false, false, false, false, false, false, false, false, false, false, false, false, false, false, false, false, false, false] rfl rfl (one_of HT_.out (by kernel_rfl)) (by decide) (fun K hK => ?_)
        refine goes_ Tryz.func94 (by kernel_rfl) rfl #[.string t] (by rfl) rfl rfl (by (try simp only [List.map_toArray, List.map_cons, List.map_nil]); first | done | rfl) ?_
        refine (hnm _).mono ?_
        rintro e w2 ⟨rfl, hB2⟩
        refine ⟨_, rfl, ?_⟩
        refine hK.out _ _ (held_next hHeld hB2) (fun hHeld => ?_)
        clear hK K
        refine norm_ (a' := ?aa119) ?ha119 ?hh119
        case ha119 => (show Act.put _ (some 16) _ = _; simp only [Act.put, List.setIfInBounds_toArray, List.set_cons_zero, List.set_cons_succ, i64_w, i32_w]; rfl)
        refine pure_ (i := 7) (N := (some 17)) (v := ?vv120) (a' := ?aa120) #[true, true, true, true, true, true, true, true, false, false, false, false, false, false, false, false, false, false, false, false, false, false, false, false, false, false, false] rfl rfl (any_of HT_.out (by kernel_rfl)) (fun _ _ _ h => h) (Or.inl ⟨by rfl, ?hy120⟩) ?ha120 ?hh120
        case hy120 => (intro w'; go_simp; try with_reducible rfl)
        case ha120 => (simp only [Act.put, List.setIfInBounds_toArray, List.set_cons_zero, List.set_cons_succ, i64_w, i32_w]; rfl)
        refine pure_ (i := 8) (N := (some 18)) (v := ?vv121) (a' := ?aa121) #[true, true, true, true, true, true, true, true, true, false, false, false, false, false, false, false, false, false, false, false, false, false, false, false, false, false, false] rfl rfl (any_of HT_.out (by kernel_rfl)) (fun _ _ _ h => h) (Or.inl ⟨by rfl, ?hy121⟩) ?ha121 ?hh121
        case hy121 => (intro w'; go_simp; try with_reducible rfl)
        case ha121 => (simp only [Act.put, List.setIfInBounds_toArray, List.set_cons_zero, List.set_cons_succ, i64_w, i32_w]; rfl)
        refine pure_ (i := 9) (N := (some 19)) (v := ?vv122) (a' := ?aa122) #[true, true, true, true, true, true, true, true, true, true, false, false, false, false, false, false, false, false, false, false, false, false, false, false, false, false, false] rfl rfl (any_of HT_.out (by kernel_rfl)) (fun _ _ _ h => h) (Or.inl ⟨by rfl, ?hy122⟩) ?ha122 ?hh122
        case hy122 => (intro w'; go_simp; try with_reducible rfl)
        case ha122 => (simp only [Act.put, List.setIfInBounds_toArray, List.set_cons_zero, List.set_cons_succ, i64_w, i32_w]; rfl)
        refine one_ (i := 10) (N := (some 20)) #[true, true, true, true, true, true, true, true, true, true, true, false, false, false, false, false, false, false, false, false, false, false, false, false, false, false, false] rfl rfl (one_of HT_.out (by kernel_rfl)) (by decide) (fun K hK => ?_)
        refine goes_ Tryz.func95 (by kernel_rfl) rfl #[.slice A3 (l1.length + l2.length) c3, .func (.func 96) #[] #[]] (by rfl) rfl rfl (by (try simp only [List.map_toArray, List.map_cons, List.map_nil]); first | done | rfl) ?_
        refine (hcf _ hHeld).mono ?_
        rintro e w3 ⟨rfl, hB3⟩
        refine ⟨_, rfl, ?_⟩
        refine hK.out _ _ (held_next hHeld hB3) (fun hHeld => ?_)
        clear hK K
        refine norm_ (a' := ?aa123) ?ha123 ?hh123
        case ha123 => (show Act.put _ (some 20) _ = _; simp only [Act.put, List.setIfInBounds_toArray, List.set_cons_zero, List.set_cons_succ, i64_w, i32_w]; rfl)
        refine pure_ (i := 11) (N := (some 21)) (v := ?vv124) (a' := ?aa124) #[true, true, true, true, true, true, true, true, true, true, true, true, false, false, false, false, false, false, false, false, false, false, false, false, false, false, false] rfl rfl (any_of HT_.out (by kernel_rfl)) (fun _ _ _ h => h) (Or.inl ⟨by rfl, ?hy124⟩) ?ha124 ?hh124
        case hy124 => (intro w'; go_simp; try with_reducible rfl)
        case ha124 => (simp only [Act.put, List.setIfInBounds_toArray, List.set_cons_zero, List.set_cons_succ, i64_w, i32_w]; rfl)
        refine pure_ (i := 12) (N := (some 22)) (v := ?vv125) (a' := ?aa125) #[true, true, true, true, true, true, true, true, true, true, true, true, true, false, false, false, false, false, false, false, false, false, false, false, false, false, false] rfl rfl (any_of HT_.out (by kernel_rfl)) (fun _ _ _ h => h) (Or.inl ⟨by rfl, ?hy125⟩) ?ha125 ?hh125
        case hy125 => (intro w'; go_simp; try with_reducible rfl)
        case ha125 => (simp only [Act.put, List.setIfInBounds_toArray, List.set_cons_zero, List.set_cons_succ, i64_w, i32_w]; rfl)
        refine pure_ (i := 13) (N := (some 23)) (v := ?vv126) (a' := ?aa126) #[true, true, true, true, true, true, true, true, true, true, true, true, true, true, false, false, false, false, false, false, false, false, false, false, false, false, false] rfl rfl (any_of HT_.out (by kernel_rfl)) (fun _ _ _ h => h) (Or.inl ⟨by rfl, ?hy126⟩) ?ha126 ?hh126
        case hy126 => (intro w'; go_simp; try with_reducible rfl)
        case ha126 => (simp only [Act.put, List.setIfInBounds_toArray, List.set_cons_zero, List.set_cons_succ, i64_w, i32_w]; rfl)
        refine pure_ (i := 14) (N := (some 24)) (v := ?vv127) (a' := ?aa127) #[true, true, true, true, true, true, true, true, true, true, true, true, true, true, true, false, false, false, false, false, false, false, false, false, false, false, false] rfl rfl (any_of HT_.out (by kernel_rfl)) (fun _ _ _ h => h) (Or.inl ⟨by rfl, ?hy127⟩) ?ha127 ?hh127
        case hy127 => (intro w'; go_simp; try with_reducible rfl)
        case ha127 => (simp only [Act.put, List.setIfInBounds_toArray, List.set_cons_zero, List.set_cons_succ, i64_w, i32_w]; rfl)
        refine pure_ (i := 15) (N := (some 25)) (v := ?vv128) (a' := ?aa128) #[true, true, true, true, true, true, true, true, true, true, true, true, true, true, true, true, false, false, false, false, false, false, false, false, false, false, false] rfl rfl (any_of HT_.out (by kernel_rfl)) (fun _ _ _ h => h) (Or.inl ⟨by rfl, ?hy128⟩) ?ha128 ?hh128
        case hy128 => (intro w'; go_simp; try with_reducible rfl)
        case ha128 => (simp only [Act.put, List.setIfInBounds_toArray, List.set_cons_zero, List.set_cons_succ, i64_w, i32_w]; rfl)
        refine pure_ (i := 16) (N := (some 26)) (v := ?vv129) (a' := ?aa129) #[true, true, true, true, true, true, true, true, true, true, true, true, true, true, true, true, true, false, false, false, false, false, false, false, false, false, false] rfl rfl (any_of HT_.out (by kernel_rfl)) (fun _ _ _ h => h) (Or.inl ⟨by rfl, ?hy129⟩) ?ha129 ?hh129
        case hy129 => (intro w'; go_simp; try with_reducible rfl)
        case ha129 => (simp only [Act.put, List.setIfInBounds_toArray, List.set_cons_zero, List.set_cons_succ, i64_w, i32_w]; rfl)
        refine take_ (i := 17) (N := (some 27)) (v := ?vv130) (a' := ?aa130) #[true, true, true, true, true, true, true, true, true, true, true, true, true, true, true, true, true, true, false, false, false, false, false, false, false, false, false] rfl rfl (take_of HT_.out (by kernel_rfl)) (fun _ _ _ h => h) (Or.inl ⟨by rfl, ?hy130⟩) hHeld ?ha130 ?hh130
        case hy130 => (intro w' hS; obtain ⟨hS0, hS3, hS4, hSb⟩ := hS; go_simp; try with_reducible rfl)
        case ha130 => (simp only [Act.put, List.setIfInBounds_toArray, List.set_cons_zero, List.set_cons_succ, i64_w, i32_w]; rfl)
        refine pure_ (i := 20) (N := (some 30)) (v := ?vv131) (a' := ?aa131) #[true, true, true, true, true, true, true, true, true, true, true, true, true, true, true, true, true, true, false, false, true, false, false, false, false, false, false] rfl rfl (any_of HT_.out (by kernel_rfl)) (fun _ _ _ h => h) (Or.inl ⟨by rfl, ?hy131⟩) ?ha131 ?hh131
        case hy131 => (intro w'; go_simp; try with_reducible rfl)
        case ha131 => (simp only [Act.put, List.setIfInBounds_toArray, List.set_cons_zero, List.set_cons_succ, i64_w, i32_w]; rfl)
        refine take_ (i := 21) (N := (some 31)) (v := ?vv132) (a' := ?aa132) #[true, true, true, true, true, true, true, true, true, true, true, true, true, true, true, true, true, true, false, false, true, true, false, false, false, false, false] rfl rfl (take_of HT_.out (by kernel_rfl)) (fun _ _ _ h => h) (Or.inl ⟨by rfl, ?hy132⟩) hHeld ?ha132 ?hh132
        case hy132 => (intro w' hS; obtain ⟨hS0, hS3, hS4, hSb⟩ := hS; go_simp; try with_reducible rfl)
        case ha132 => (simp only [Act.put, List.setIfInBounds_toArray, List.set_cons_zero, List.set_cons_succ, i64_w, i32_w]; rfl)
        refine one_ (i := 18) (N := (some 28)) #[true, true, true, true, true, true, true, true, true, true, true, true, true, true, true, true, true, true, true, false, true, true, false, false, false, false, false] rfl rfl (one_of HT_.out (by kernel_rfl)) (by decide) (fun K hK => ?_)
        refine goes_ Tryz.func59 (by kernel_rfl) rfl #[.bool b3] (by rfl) rfl rfl (by (try simp only [List.map_toArray, List.map_cons, List.map_nil]); first | done | rfl) ?_
        refine (truth_any _ _).mono ?_
        rintro e w4 ⟨rfl, rfl⟩
        refine ⟨_, rfl, ?_⟩
        refine hK.out _ _ (hHeld) (fun hHeld => ?_)
        clear hK K
        refine norm_ (a' := ?aa133) ?ha133 ?hh133
        case ha133 => (show Act.put _ (some 28) _ = _; simp only [Act.put, List.setIfInBounds_toArray, List.set_cons_zero, List.set_cons_succ, i64_w, i32_w]; rfl)
        refine pure_ (i := 19) (N := (some 29)) (v := ?vv134) (a' := ?aa134) #[true, true, true, true, true, true, true, true, true, true, true, true, true, true, true, true, true, true, true, true, true, true, false, false, false, false, false] rfl rfl (any_of HT_.out (by kernel_rfl)) (fun _ _ _ h => h) (Or.inl ⟨by rfl, ?hy134⟩) ?ha134 ?hh134
        case hy134 => (intro w'; go_simp; try with_reducible rfl)
        case ha134 => (simp only [Act.put, List.setIfInBounds_toArray, List.set_cons_zero, List.set_cons_succ, i64_w, i32_w]; rfl)
        refine one_ (i := 22) (N := (some 32)) #[true, true, true, true, true, true, true, true, true, true, true, true, true, true, true, true, true, true, true, true, true, true, true, false, false, false, false] rfl rfl (one_of HT_.out (by kernel_rfl)) (by decide) (fun K hK => ?_)
        refine goes_ Tryz.func59 (by kernel_rfl) rfl #[.bool b4] (by rfl) rfl rfl (by (try simp only [List.map_toArray, List.map_cons, List.map_nil]); first | done | rfl) ?_
        refine (truth_any _ _).mono ?_
        rintro e w5 ⟨rfl, rfl⟩
        refine ⟨_, rfl, ?_⟩
        refine hK.out _ _ (hHeld) (fun hHeld => ?_)
        clear hK K
        refine norm_ (a' := ?aa135) ?ha135 ?hh135
        case ha135 => (show Act.put _ (some 32) _ = _; simp only [Act.put, List.setIfInBounds_toArray, List.set_cons_zero, List.set_cons_succ, i64_w, i32_w]; rfl)
        refine pure_ (i := 23) (N := (some 33)) (v := ?vv136) (a' := ?aa136) #[true, true, true, true, true, true, true, true, true, true, true, true, true, true, true, true, true, true, true, true, true, true, true, true, false, false, false] rfl rfl (any_of HT_.out (by kernel_rfl)) (fun _ _ _ h => h) (Or.inl ⟨by rfl, ?hy136⟩) ?ha136 ?hh136
        case hy136 => (intro w'; go_simp; try with_reducible rfl)
        case ha136 => (simp only [Act.put, List.setIfInBounds_toArray, List.set_cons_zero, List.set_cons_succ, i64_w, i32_w]; rfl)
        refine pure_ (i := 24) (N := (some 34)) (v := ?vv137) (a' := ?aa137) #[true, true, true, true, true, true, true, true, true, true, true, true, true, true, true, true, true, true, true, true, true, true, true, true, true, false, false] rfl rfl (any_of HT_.out (by kernel_rfl)) (fun _ _ _ h => h) (Or.inl ⟨by rfl, ?hy137⟩) ?ha137 ?hh137
        case hy137 => (intro w'; go_simp; try with_reducible rfl)
        case ha137 => (simp only [Act.put, List.setIfInBounds_toArray, List.set_cons_zero, List.set_cons_succ, i64_w, i32_w]; rfl)
        refine pure_ (i := 25) (N := (some 35)) (v := ?vv138) (a' := ?aa138) #[true, true, true, true, true, true, true, true, true, true, true, true, true, true, true, true, true, true, true, true, true, true, true, true, true, true, false] rfl rfl (any_of HT_.out (by kernel_rfl)) (fun _ _ _ h => h) (Or.inl ⟨by rfl, ?hy138⟩) ?ha138 ?hh138
        case hy138 => (intro w'; go_simp; try with_reducible rfl)
        case ha138 => (simp only [Act.put, List.setIfInBounds_toArray, List.set_cons_zero, List.set_cons_succ, i64_w, i32_w]; rfl)
        refine pure_ (i := 26) (N := (some 2)) (v := ?vv139) (a' := ?aa139) #[true, true, true, true, true, true, true, true, true, true, true, true, true, true, true, true, true, true, true, true, true, true, true, true, true, true, true] rfl rfl (any_of HT_.out (by kernel_rfl)) (fun _ _ _ h => h) (Or.inl ⟨by rfl, ?hy139⟩) ?ha139 ?hh139
        case hy139 => (intro w'; go_simp; try with_reducible rfl)
        case ha139 => (simp only [Act.put, List.setIfInBounds_toArray, List.set_cons_zero, List.set_cons_succ, i64_w, i32_w]; rfl)
        refine done_ (done_of HT_.out (by kernel_rfl)) ?_
        go_wp2
        go_ret
        have hSb := hHeld.2.2.2.1
        refine ⟨?_, below_then HB.out HB.out.size hSb⟩
        rw [HM.out, HN.out, HA.out]
        have hw := may_sum l1 l2 b3 b4 HL.out
        show Ending.returned (Value.bool (decide (wrap64 (wrap64 ((l1.length : Int) + (l2.length : Int) + truthV b3) + truthV b4) ≤ 8))) = _
        rw [hw]
        simp [HE.out]
end Go.Proofs.Tok
