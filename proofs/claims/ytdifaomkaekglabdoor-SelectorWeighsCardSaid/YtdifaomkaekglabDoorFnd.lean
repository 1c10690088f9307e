/- slices.ContainsFunc over a row of texts at token.Name: contracts proved by walking their text; no condition beside those that each theorem states. -/
import Derived.Test.YtdifaomkaekglabDoorScA
import Derived.KernelRfl
import Derived.Shelf.Spec.SlicesGrow
import Derived.OwnWalk
import Derived.Test.YtdifaomkaekglabDoorWMore
import Derived.Test.YtdifaomkaekglabDoorTkB
set_option linter.unusedVariables false
namespace Go.Proofs.Tok
open Go.RowKit Go.Lib Go.Shelf
def growRen : Go.Shelf.Ren := ⟨fun | 4 => 55 | n => n, fun | 0 => 0 | 3 => 3 | 4 => 4 | 9 => 9 | 20 => 20 | 22 => 42 | 25 => 9 | n => n, fun | n => n⟩
theorem growLays : Lays8.n4 Tryd.prog growRen := {
  mixed := by kernel_rfl
  f4 := ⟨Tryd.f55.name, by kernel_rfl, Tryd.func55.trans (congrArg some (by kernel_rfl))⟩
  t0 := Tryd.underlying0
  a0 := Tryd.isAgg0
  z0 := Tryd.sizeOf0
  v0 := Tryd.zeroValue0
  t3 := Tryd.underlying3
  a3 := Tryd.isAgg3
  z3 := Tryd.sizeOf3
  v3 := Tryd.zeroValue3
  t4 := Tryd.underlying4
  a4 := Tryd.isAgg4
  z4 := Tryd.sizeOf4
  v4 := Tryd.zeroValue4
  t9 := Tryd.underlying9
  a9 := Tryd.isAgg9
  z9 := Tryd.sizeOf9
  v9 := Tryd.zeroValue9
  t20 := Tryd.underlying20
  a20 := Tryd.isAgg20
  z20 := Tryd.sizeOf20
  v20 := Tryd.zeroValue20
  t22 := Tryd.underlying42
  a22 := Tryd.isAgg42
  z22 := Tryd.sizeOf42
  v22 := Tryd.zeroValue42 }
end Go.Proofs.Tok
set_option linter.unusedSimpArgs false
namespace Go.Proofs.Tok
open Go.RowKit Go.Lib Go.Proofs.YtdifaomkaekglabDoorW.PrintWords Go.Proofs.YtdifaomkaekglabDoorW.PrintLast Go.Proofs.YtdifaomkaekglabDoorW.PrintMore
theorem infoS : (Tryd.prog.info? 9).map (fun i => (i.zero, i.size, i.bytes)) = some (some (.string ⟨#[]⟩), 1, 16) := by kernel_rfl
theorem grow_strs (n : Nat) (w : World) (hn : n * 16 ≤ 140737488355328) :
    Calls Tryd.prog 55 #[.slice none 0 0, .int .i64 n] w fun e w' => ∃ v, e = .returned v ∧ Kd.R Kd.string 9 w' w.heap.size (fun _ => True) v [] ∧ Below w.heap.size w w' := by
  by_cases h0 : n = 0
  · subst h0
    refine (Any8.slices_Grow_room growLays none 0 0 0 w (Nat.le_refl _) (by omega) (by omega) (Nat.le_refl _)).mono ?_
    rintro e w' ⟨rfl, rfl⟩
    exact ⟨_, rfl, Kd.R_nil _ _ _ _ _, Below.refl _ _⟩
  · obtain ⟨i0, hi, hz⟩ := Option.map_eq_some_iff.1 infoS
    simp only [Prod.mk.injEq] at hz
    obtain ⟨hz0, hz1, hz2⟩ := hz
    refine (Any8.slices_Grow_grow growLays i0 _ hi hz0 (by omega) none 0 0 n [] w (Nat.le_refl _) (by omega) (by rw [hz2]; omega) (by omega) (by simp) (fun _ => rfl) (fun a ha => by cases ha)).mono ?_
    rintro e w' ⟨rfl, rfl⟩
    have hge := grownCap_ge w (0 + n) 0 9
    have hle := grownCap_le_maxLen w (0 + n) 0 9 (by simp only [maxLen]; omega)
    refine ⟨_, rfl, ⟨fun _ _ => trivial, [], ⟨rfl, .inr ⟨w.heap.size, _, _, rfl, Nat.le_refl _, heap_alloc_new w.drew _, Nat.zero_le _, hle, ?_, by simp⟩⟩, Reps.none _ _⟩, ?_⟩
    · show _ = grownCap w (0 + n) 0 9 * 1
      have hg : growRen.t 25 = 9 := rfl
      have hc : (Value.string { data := #[] }).cells.size = 1 := rfl
      simp only [Builtin.zeroCells, hg]
      simp [hc]
      simp at hge
      omega
    · repeat (first | exact Below.refl _ _ | apply below_alloc | apply below_drew1)
set_option maxHeartbeats 4000000 in
set_option maxRecDepth 400000 in
theorem concat_any (a b : List ByteArray) (A0 A1 : Option Addr) (c0 c1 S : Nat) (w : World) (hS : S < w.heap.size) (h0 : w.cell? ⟨S, 0, none⟩ = some (.slice A0 a.length c0)) (h1 : w.cell? ⟨S, 1, none⟩ = some (.slice A1 b.length c1))
    (C0 : Kd.C Kd.string w A0 a.length a) (C1 : Kd.C Kd.string w A1 b.length b) (hsz : (a.length + b.length) * 16 ≤ 140737488355328) :
    Calls Tryd.prog 40 #[.slice (some ⟨S, 0, none⟩) 2 2] w fun e w' => ∃ v, e = .returned v ∧ Kd.R Kd.string 9 w' w.heap.size (fun _ => True) v (a ++ b) ∧ Below w.heap.size w w' := by
  have D0 := Aside0.mk C0
  have D1 := Aside0.mk C1
  have LS := Aside0.mk hsz
  have z0 : wrap64 (0 + (a.length : Int)) = (a.length : Int) := by unfold wrap64; omega
  have z1 : wrap64 ((a.length : Int) + (b.length : Int)) = ((a.length + b.length : Nat) : Int) := by unfold wrap64; omega
  have hgr := grow_strs (a.length + b.length)
  clear C0 C1 hsz
  go_enter Tryd.func40, Tryd.ntmps40
  go_wp2
  go_loopw [3, 5, 11, 12, 13, 14, 15, 16, 17, 18, 19, 20, 22] (fun s _ i _ _ _ _ _ _ _ _ _ _ wr => ∃ k : Nat, k ≤ 2 ∧ i = .int .i64 k ∧ s = .int .i64 (if k = 0 then 0 else if k = 1 then (a.length : Int) else ((a.length + b.length : Nat) : Int)) ∧ Aside0 (Below w.heap.size w wr)) (fun _ _ i _ _ _ _ _ _ _ _ _ _ _ => 2 - (RowKit.intOf i).toNat)
  case atStart => exact ⟨0, by omega, rfl, rfl, ⟨Below.refl _ _⟩⟩
  case round =>
    obtain ⟨k, hk, rfl, rfl, B1⟩ := hrel
    have hls := LS.out
    have hk3 : k = 0 ∨ k = 1 ∨ k = 2 := by omega
    rcases hk3 with rfl | rfl | rfl
    · have hc0 : wr.cell? ⟨S, 0, none⟩ = some (.slice A0 a.length c0) := (B1.out.cell hS).trans h0
      have hn : decide (wrap64 (a.length : Int) < 0) = false := decide_eq_false (by unfold wrap64; omega)
      have hn2 : ¬ (wrap64 (a.length : Int) < 0) := by unfold wrap64; omega
      have hw : wrap64 (a.length : Int) = (a.length : Int) := by unfold wrap64; omega
      go_wp2
      exact ⟨⟨1, by omega, by go_num, by first | rfl | (rw [hw]; rfl) | (rw [z0]; rfl), B1⟩, by simp [RowKit.intOf]⟩
    · have hc1 : wr.cell? ⟨S, 1, none⟩ = some (.slice A1 b.length c1) := (B1.out.cell hS).trans h1
      have hn : decide (wrap64 ((a.length : Int) + (b.length : Int)) < 0) = false := decide_eq_false (by unfold wrap64; omega)
      have hn2 : ¬ (wrap64 ((a.length : Int) + (b.length : Int)) < 0) := by unfold wrap64; omega
      go_wp2
      exact ⟨⟨2, by omega, by go_num, by first | rfl | (rw [z1]; rfl), B1⟩, by simp [RowKit.intOf]⟩
    · clear hls
      go_wp2_with (first | (go_at_call 55; refine (hgr _ LS.out).mono ?_; rintro e w' ⟨vg, rfl, hR, hB⟩; have HG := Aside0.mk hR; have HBG := Aside0.mk hB; clear hR hB))
      have HB1 := Aside0.mk (below_then B1.out B1.out.size HBG.out)
      have HG1 := Aside0.mk (Kd.R_lower HG.out B1.out.size)
      clear HG HBG B1
      go_loopw [6, 8, 27, 28, 29, 30, 31, 32, 33, 34] (fun v _ i _ _ _ _ _ _ _ wr => ∃ k : Nat, k ≤ 2 ∧ i = .int .i64 k ∧ Aside0 (Kd.R Kd.string 9 wr w.heap.size (fun _ => True) v (if k = 0 then [] else if k = 1 then a else a ++ b)) ∧ Aside0 (Below w.heap.size w wr)) (fun _ _ i _ _ _ _ _ _ _ _ => 2 - (RowKit.intOf i).toNat)
      case atStart => exact ⟨0, by omega, rfl, HG1, HB1⟩
      case round =>
        obtain ⟨k, hk, rfl, HR, B2⟩ := hrel
        have hk3 : k = 0 ∨ k = 1 ∨ k = 2 := by omega
        rcases hk3 with rfl | rfl | rfl
        · have hc0 : wr.cell? ⟨S, 0, none⟩ = some (.slice A0 a.length c0) := (B2.out.cell hS).trans h0
          go_wp2_with (first | ((with_reducible refine gate_builtin (b := .append) (xs := #[.tmp 31, .tmp 32]) rfl ?_); at_builtin; refine Kd.R_append_rows Kd.string (w0 := w) w.heap.size rfl (.tmp 31) (.tmp 32) 42 9 (.string ⟨#[]⟩) 16 rfl Tryd.underlying42 infoS rfl (by decide) (by omega) u6 [] a _ _ _ (fun _ => True) (fun _ => False) rfl rfl HR.out ?aR (fun _ _ h => h) (fun _ h => h.elim) (fun _ _ => trivial) B2.out B2.out.size ?aL ?_; (case aR => exact Kd.C_below D0.out B2.out); (case aL => have := LS.out; first | (simp; omega) | omega); intro v2 w2 ho hb hg hat; have n0_ := Aside0.mk hb; have n1_ := Aside0.mk ho; clear B2 HR ho hb hg hat))
          exact ⟨⟨1, by omega, by go_num, n1_, n0_⟩, by simp [RowKit.intOf]⟩
        · have hc1 : wr.cell? ⟨S, 1, none⟩ = some (.slice A1 b.length c1) := (B2.out.cell hS).trans h1
          go_wp2_with (first | ((with_reducible refine gate_builtin (b := .append) (xs := #[.tmp 31, .tmp 32]) rfl ?_); at_builtin; refine Kd.R_append_rows Kd.string (w0 := w) w.heap.size rfl (.tmp 31) (.tmp 32) 42 9 (.string ⟨#[]⟩) 16 rfl Tryd.underlying42 infoS rfl (by decide) (by omega) u6 a b _ _ _ (fun _ => True) (fun _ => False) rfl rfl HR.out ?aR (fun _ _ h => h) (fun _ h => h.elim) (fun _ _ => trivial) B2.out B2.out.size ?aL ?_; (case aR => exact Kd.C_below D1.out B2.out); (case aL => have := LS.out; first | (simp; omega) | omega); intro v2 w2 ho hb hg hat; have n0_ := Aside0.mk hb; have n1_ := Aside0.mk ho; clear B2 HR ho hb hg hat))
          exact ⟨⟨2, by omega, by go_num, n1_, n0_⟩, by simp [RowKit.intOf]⟩
        · go_wp2
          go_ret
          exact ⟨_, rfl, HR.out, B2.out⟩
end Go.Proofs.Tok
namespace Go.Proofs.Tok
open Go.RowKit Go.Lib Go.Proofs.YtdifaomkaekglabDoorW.PrintWords Go.Proofs.YtdifaomkaekglabDoorW.PrintLast Go.Proofs.YtdifaomkaekglabDoorW.PrintMore
def noName (s : ByteArray) : Bool := !nameV s.data.toList
set_option maxHeartbeats 2000000 in
set_option maxRecDepth 400000 in
theorem mayf_any (s : ByteArray) (w : World) (hs : s.size < 4294967281) :
    Calls Tryd.prog 43 #[.string s] w fun e w' => e = .returned (.bool (noName s)) ∧ Below w.heap.size w w' := by
  have hn := fun w => Name_any s w hs
  unfold noName
  generalize nameV s.data.toList = b at hn ⊢
  go_enter Tryd.func43, Tryd.ntmps43
  go_wp2_with (first | (go_at_call 41; refine (hn _).mono ?_; rintro e w' ⟨rfl, hB⟩))
  go_ret
  exact ⟨rfl, hB⟩
set_option maxHeartbeats 4000000 in
set_option maxRecDepth 400000 in
theorem index_strs (xs : List ByteArray) (A : Option Addr) (c : Nat) (w : World) (C : Kd.C Kd.string w A xs.length xs) (hl : xs.length ≤ 8796093022208) (hs : ∀ s ∈ xs, s.size < 4294967281) :
    Calls Tryd.prog 57 #[.slice A xs.length c, .func (.func 43) #[] #[]] w fun e w' => Below w.heap.size w w' ∧ ∃ i : Int, e = .returned (.int .i64 i) ∧ decide (0 ≤ i) = xs.any noName := by
  have C0 := Aside0.mk C
  have HS := Aside0.mk hs
  clear C hs
  go_enter Tryd.func57, Tryd.ntmps57
  go_wp2
  go_loopw [5, 8, 9, 10, 11, 12, 13, 14, 15, 16, 18] (fun _ i _ _ _ _ _ _ _ _ _ wr => ∃ k : Nat, k ≤ xs.length ∧ i = .int .i64 k ∧ Aside0 ((xs.take k).any noName = false) ∧ Aside0 (Below w.heap.size w wr)) (fun _ i _ _ _ _ _ _ _ _ _ _ => xs.length - (RowKit.intOf i).toNat)
  case atStart => exact ⟨0, Nat.zero_le _, rfl, ⟨rfl⟩, ⟨Below.refl _ _⟩⟩
  case round =>
    obtain ⟨k, hk, rfl, N1, B1⟩ := hrel
    by_cases hlt : k < xs.length
    · have g1 : decide ((k : Int) < (xs.length : Int)) = true := decide_eq_true (by omega)
      obtain ⟨ad, e, hc⟩ := Kd.at_string C0.out (k : Int) (by omega) (by omega)
      subst e
      have hg : rdOf ByteArray.empty xs (k : Int) = xs[k] := by
        unfold rdOf
        rw [Int.toNat_natCast, List.getD, List.getElem?_eq_getElem hlt]
        rfl
      rw [hg, Int.toNat_natCast] at hc
      have hc2 : wr.cell? (ad.add k) = some (.string xs[k]) := (B1.out.cell (World.block_lt_of_cell? _ _ hc)).trans hc
      have hx := fun w => mayf_any xs[k] w (HS.out _ (List.getElem_mem hlt))
      have T1 : Aside0 ((xs.take (k + 1)).any noName = ((xs.take k).any noName || noName xs[k])) := ⟨by rw [List.take_succ_eq_append_getElem hlt, List.any_append]; simp⟩
      have T2 : Aside0 (noName xs[k] = true → xs.any noName = true) := ⟨fun h => List.any_eq_true.2 ⟨xs[k], List.getElem_mem hlt, h⟩⟩
      generalize xs[k] = x at hx hc2 T1 T2
      obtain ⟨b, hb⟩ : ∃ b, noName x = b := ⟨_, rfl⟩
      have HN := Aside0.mk hb
      rw [hb] at hx
      clear hc hg hb
      cases b with
      | true =>
        go_wp2_with (first | (go_at_call 43; refine (hx _).mono ?_; rintro e w' ⟨rfl, hB⟩))
        go_ret
        exact ⟨below_then B1.out B1.out.size hB, _, rfl, by rw [T2.out HN.out]; simp⟩
      | false =>
        go_wp2_with (first | (go_at_call 43; refine (hx _).mono ?_; rintro e w' ⟨rfl, hB⟩))
        exact ⟨⟨k + 1, by omega, by go_num, ⟨by rw [T1.out, N1.out, HN.out]; rfl⟩, ⟨below_then B1.out B1.out.size hB⟩⟩, by simp [RowKit.intOf]; omega⟩
    · obtain rfl : k = xs.length := by omega
      have g1 : decide ((xs.length : Int) < (xs.length : Int)) = false := decide_eq_false (by omega)
      have hN := N1.out
      rw [List.take_length] at hN
      have N2 := Aside0.mk hN
      clear hN N1
      go_wp2
      go_ret
      exact ⟨B1.out, _, rfl, by rw [N2.out]; rfl⟩
set_option maxHeartbeats 2000000 in
set_option maxRecDepth 400000 in
theorem contains_strs (xs : List ByteArray) (A : Option Addr) (c : Nat) (w : World) (C : Kd.C Kd.string w A xs.length xs) (hl : xs.length ≤ 8796093022208) (hs : ∀ s ∈ xs, s.size < 4294967281) :
    Calls Tryd.prog 42 #[.slice A xs.length c, .func (.func 43) #[] #[]] w fun e w' => e = .returned (.bool (xs.any noName)) ∧ Below w.heap.size w w' := by
  have hi := index_strs xs A c w C hl hs
  clear C hs
  generalize xs.any noName = r at hi ⊢
  go_enter Tryd.func42, Tryd.ntmps42
  go_wp2_with (first | (go_at_call 57; refine hi.mono ?_; rintro e w' ⟨hB, i, rfl, hd⟩))
  go_ret
  exact ⟨by rw [← hd]; rfl, hB⟩
end Go.Proofs.Tok
