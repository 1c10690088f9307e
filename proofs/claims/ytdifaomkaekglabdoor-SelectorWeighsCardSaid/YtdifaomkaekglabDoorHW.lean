-- Written by a program of this session (wip/tools/hprint.py), which drives the kit's print; not print.sh's own output.
import Derived.Test.YtdifaomkaekglabDoorHS0
import Derived.Test.YtdifaomkaekglabDoorHS3
import Derived.Test.YtdifaomkaekglabDoorHS4
import Derived.Test.YtdifaomkaekglabDoorHS5
import Derived.Test.YtdifaomkaekglabDoorHS6
namespace Go.Proofs.YtdifaomkaekglabDoor.HS
open Go.RowKit Go.Proofs.YtdifaomkaekglabDoorW.PrintWords Go.Proofs.YtdifaomkaekglabDoorW.PrintLast Go.Proofs.YtdifaomkaekglabDoorW.PrintMore
attribute [local go_sem] max2_int min2_int max_two min_two max_three min_three max_four min_four   -- for this text's walks alone
set_option linter.unusedVariables false
set_option linter.unusedSimpArgs false

theorem ne_typed {w : World} {v u : Value} {e t : TypeId} (h : ∀ k, v.ownBlock = some k → ∃ cells, w.heap[k]? = some (.cells cells e (0, 0))) (h2 : ∀ k, u.ownBlock = some k → ∃ cells, w.heap[k]? = some (.cells cells t (0, 0))) (hne : e ≠ t) {k : Nat} (hv : v.ownBlock = some k) : some k ≠ u.ownBlock := by
  intro e1
  obtain ⟨c1, g1⟩ := h k hv
  obtain ⟨c2, g2⟩ := h2 k e1.symm
  rw [g1] at g2
  injection g2 with g2
  injection g2 with _ g3
  exact hne g3
/-! ### scrimlaw09_SelectorWeighs: function 5 -/
def scrimlaw09_SelectorWeighs.l0 : Nat → Int → Int → List (S44) → Int → Int → List (S44) → List Bool → Option (Bool)
  | 0, _, _, _, _, _, _, _ => none
  | k + 1, x1, x5, x15, x16, x17, x224000, x224001 => if x17 < x16 then (if 0 ≤ x17 then (if x17 < (x15.length : Int) then ((selector_Weight.f k (([(⟨(rd_T44 x15 x17).f0, (rd_T44 x15 x17).f1, (rd_T44 x15 x17).f2, (rd_T44 x15 x17).f3, (rd_T44 x15 x17).f4⟩ : S44)] : List (S44))) ([] : List Bool)).bind fun t237 => (scrimlaw09_SelectorWeighs.l0 k x1 (wrap64 (x5 + t237)) x15 x16 (wrap64 (x17 + 1)) x224000 x224001)) else (none)) else (none)) else ((selector_Weight.f k x224000 x224001).bind fun t238 => (if x5 = t238 then (if x1 < 0 then (some true) else (if x1 ≥ (x224000.length : Int) then (some true) else ((some (([] : List (S44)) : List (S44))).bind fun y239 => (if y239.length + x224000.length < 1954687338268 then ((some (y239 ++ x224000 : List (S44))).bind fun y242 => ((some (([] : List ByteArray) : List ByteArray)).bind fun y246 => (if 0 ≤ x1 then (if x1 < (y242.length : Int) then (if y246.length + ((rd_T44 y242 x1).f1).length < 8796093022208 then (if (y246 ++ ((rd_T44 y242 x1).f1)).length + (([(⟨#[109, 111, 114, 101]⟩ : ByteArray)] : List ByteArray)).length < 8796093022208 then ((selector_Weight.f k (y242.set (x1 : Int).toNat (⟨(rd_T44 y242 x1).f0, (y246 ++ ((rd_T44 y242 x1).f1)) ++ ([(⟨#[109, 111, 114, 101]⟩ : ByteArray)] : List ByteArray), (rd_T44 y242 x1).f2, (rd_T44 y242 x1).f3, (rd_T44 y242 x1).f4⟩ : S44)) x224001).bind fun t260 => (some (t260 == (wrap64 (x5 + 10000))))) else (none)) else (none)) else (none)) else (none)))) else (none))))) else (some false)))
def scrimlaw09_SelectorWeighs.f (k : Nat) (l0_0 : List (S44)) (l0_1 : List Bool) (a1 : Int) : Option (Bool) := (scrimlaw09_awake.f k).bind fun t224 => (if t224 = true then ((scrimlaw09_own.f k l0_0 l0_1).bind fun bt225 => ((scrimref09_Large.f k bt225.1 bt225.2).bind fun t231 => (if t231 = true then (some true) else (scrimlaw09_SelectorWeighs.l0 k a1 0 l0_0 (l0_0.length : Int) 0 l0_0 l0_1)))) else (some false))
theorem scrimlaw09_SelectorWeighs.mono_l : ∀ k, (∀ y0 y1 y2 y3 y4 y5 y6, LeO (scrimlaw09_SelectorWeighs.l0 k y0 y1 y2 y3 y4 y5 y6) (scrimlaw09_SelectorWeighs.l0 (k + 1) y0 y1 y2 y3 y4 y5 y6))
  | 0 => fun _ _ _ _ _ _ _ r h => by simp [scrimlaw09_SelectorWeighs.l0] at h
  | k + 1 => by
    have ih0 := scrimlaw09_SelectorWeighs.mono_l k
    · intro y0 y1 y2 y3 y4 y5 y6
      unfold scrimlaw09_SelectorWeighs.l0
      repeat' first
      | (with_reducible exact ih0 _ _ _ _ _ _ _)
      | (with_reducible exact scrimlaw09_awake.mono _)
      | (with_reducible exact scrimlaw09_own.mono _ _ _)
      | (with_reducible exact scrimref09_Large.mono _ _ _)
      | (with_reducible exact selector_Weight.mono _ _ _)
      | (with_reducible exact LeO.refl _)
      | (with_reducible exact LeO.none _)
      | (with_reducible refine LeO.ite ?_ ?_)
      | (with_reducible refine LeO.bind ?_ (fun _ => ?_))
      | exact ih0 _ _ _ _ _ _ _
      | exact scrimlaw09_awake.mono _
      | exact scrimlaw09_own.mono _ _ _
      | exact scrimref09_Large.mono _ _ _
      | exact selector_Weight.mono _ _ _
      | exact LeO.none _
      | refine LeO.ite ?_ ?_
      | refine LeO.bind ?_ (fun _ => ?_)
theorem scrimlaw09_SelectorWeighs.mono : ∀ a0 a1 a2 k, LeO (scrimlaw09_SelectorWeighs.f k a0 a1 a2) (scrimlaw09_SelectorWeighs.f (k + 1) a0 a1 a2) := by
  intro a0 a1 a2 k
  have ih0 := scrimlaw09_SelectorWeighs.mono_l k
  unfold scrimlaw09_SelectorWeighs.f
  repeat' first
      | (with_reducible exact ih0 _ _ _ _ _ _ _)
      | (with_reducible exact scrimlaw09_awake.mono _)
      | (with_reducible exact scrimlaw09_own.mono _ _ _)
      | (with_reducible exact scrimref09_Large.mono _ _ _)
      | (with_reducible exact selector_Weight.mono _ _ _)
      | (with_reducible exact LeO.refl _)
      | (with_reducible exact LeO.none _)
      | (with_reducible refine LeO.ite ?_ ?_)
      | (with_reducible refine LeO.bind ?_ (fun _ => ?_))
      | exact ih0 _ _ _ _ _ _ _
      | exact scrimlaw09_awake.mono _
      | exact scrimlaw09_own.mono _ _ _
      | exact scrimref09_Large.mono _ _ _
      | exact selector_Weight.mono _ _ _
      | exact LeO.none _
      | refine LeO.ite ?_ ?_
      | refine LeO.bind ?_ (fun _ => ?_)
def scrimlaw09_SelectorWeighs.T15 : Bool × List (List Nat × List Nat) := (true, [([], []), ([], []), ([1], [1]), ([0, 2], [0, 2]), ([], []), ([4], [4]), ([3, 5], [3, 5]), ([], []), ([7, 6, 3, 0, 1, 2, 3, 4, 5, 6, 7], [6, 7])])
def scrimlaw09_SelectorWeighs.B15 : List Nat := [0, 0, 2, 7, 0, 16, 63, 0, 255]
theorem scrimlaw09_SelectorWeighs.tab15 : rtab .any (opsOf Tryd.f5 15) = scrimlaw09_SelectorWeighs.T15 := by kernel_rfl
theorem scrimlaw09_SelectorWeighs.bits15 : waitsOk scrimlaw09_SelectorWeighs.T15.2 scrimlaw09_SelectorWeighs.B15 = true := by kernel_rfl
def scrimlaw09_SelectorWeighs.T16 : Bool × List (List Nat × List Nat) := (true, [([], []), ([0], [0]), ([], []), ([], []), ([], []), ([4], [4]), ([], []), ([5, 6], [5, 6]), ([7], [7]), ([8], [8]), ([3, 9], [3, 9]), ([], []), ([10, 11, 10], [10, 11]), ([1, 2, 0, 1, 2, 3, 4, 5, 6, 7, 8, 9, 10, 11, 12], [1, 2]), ([13, 0, 1, 2, 3, 4, 5, 6, 7, 8, 9, 10, 11, 12], [13]), ([14, 12, 12, 0, 1, 2, 3, 4, 5, 6, 7, 8, 9, 10, 11, 12], [12, 14])])
def scrimlaw09_SelectorWeighs.B16 : List Nat := [0, 1, 0, 0, 0, 16, 0, 112, 240, 496, 1016, 0, 4088, 8191, 16383, 32767]
theorem scrimlaw09_SelectorWeighs.tab16 : rtab .any (opsOf Tryd.f5 16) = scrimlaw09_SelectorWeighs.T16 := by kernel_rfl
theorem scrimlaw09_SelectorWeighs.bits16 : waitsOk scrimlaw09_SelectorWeighs.T16.2 scrimlaw09_SelectorWeighs.B16 = true := by kernel_rfl
set_option maxHeartbeats 8000000 in
set_option maxRecDepth 100000 in
theorem scrimlaw09_SelectorWeighs.calls (k : Nat) (P0_0_ : Nat → Prop) (A0_0 : Option Addr) (c0_0 : Nat) (l0_0 : List (S44)) (P0_1_ : Nat → Prop) (A0_1 : Option Addr) (c0_1 : Nat) (l0_1 : List Bool) (a1 : Int) (r : Bool) (hrt : r = true) (w : World) (hs0_0 : Kd.V k44 44 w w.heap.size (fun k_ => P0_0_ k_) (.slice A0_0 l0_0.length c0_0) l0_0) (hs0_1 : Kd.V Kd.bool 4 w w.heap.size (fun k_ => P0_1_ k_) (.slice A0_1 l0_1.length c0_1) l0_1) (h : scrimlaw09_SelectorWeighs.f k l0_0 l0_1 a1 = some r) (hmx : Go.Proofs.Scn.Mx w) :
    Calls Tryd.prog 5 #[.agg #[.slice A0_0 l0_0.length c0_0, .slice A0_1 l0_1.length c0_1], .int .i64 a1] w fun e w' => e = .returned (.bool r) ∧ Below w.heap.size w w' := by
  have HMX := Aside0.mk hmx
  clear hmx
  have hu25 := Tryd.underlying25
  have hu44 := Tryd.underlying44
  have HO0_0 := Aside0.mk (show Kd.V k44 44 w w.heap.size (fun k_ => ((P0_0_ k_ ∨ P0_1_ k_) ∨ w.heap.size ≤ k_)) (.slice A0_0 l0_0.length c0_0) l0_0 from Kd.V_mono hs0_0 (fun k_ hk => .inl (.inl hk)))
  have HO0_1 := Aside0.mk (show Kd.V Kd.bool 4 w w.heap.size (fun k_ => ((P0_0_ k_ ∨ P0_1_ k_) ∨ w.heap.size ≤ k_)) (.slice A0_1 l0_1.length c0_1) l0_1 from Kd.V_mono hs0_1 (fun k_ hk => .inl (.inr hk)))
  have HB := Aside0.mk (Below.refl w.heap.size w)
  have H : ((scrimlaw09_awake.f k).bind fun t224 => (if t224 = true then ((scrimlaw09_own.f k l0_0 l0_1).bind fun bt225 => ((scrimref09_Large.f k bt225.1 bt225.2).bind fun t231 => (if t231 = true then (some true) else (scrimlaw09_SelectorWeighs.l0 k a1 0 l0_0 (l0_0.length : Int) 0 l0_0 l0_1)))) else (some false))) = some r := h
  clear h
  replace H := Option.bind_eq_some_iff.mp H
  obtain ⟨t224, A30, H⟩ := H
  replace H : (if t224 = true then ((scrimlaw09_own.f k l0_0 l0_1).bind fun bt225 => ((scrimref09_Large.f k bt225.1 bt225.2).bind fun t231 => (if t231 = true then (some true) else (scrimlaw09_SelectorWeighs.l0 k a1 0 l0_0 (l0_0.length : Int) 0 l0_0 l0_1)))) else (some false)) = some r := H
  have A3 := Aside0.mk A30
  clear A30
  by_cases c4 : t224 = true
  · subst c4
    have H1 : ((scrimlaw09_own.f k l0_0 l0_1).bind fun bt225 => ((scrimref09_Large.f k bt225.1 bt225.2).bind fun t231 => (if t231 = true then (some true) else (scrimlaw09_SelectorWeighs.l0 k a1 0 l0_0 (l0_0.length : Int) 0 l0_0 l0_1)))) = some r := by rw [if_pos rfl] at H; exact H
    clear H
    have H := H1
    clear H1
    replace H := Option.bind_eq_some_iff.mp H
    obtain ⟨⟨t225, t228⟩, A50, H⟩ := H
    replace H : ((scrimref09_Large.f k t225 t228).bind fun t231 => (if t231 = true then (some true) else (scrimlaw09_SelectorWeighs.l0 k a1 0 l0_0 (l0_0.length : Int) 0 l0_0 l0_1))) = some r := H
    have A5 := Aside0.mk A50
    clear A50
    replace H := Option.bind_eq_some_iff.mp H
    obtain ⟨t231, A60, H⟩ := H
    replace H : (if t231 = true then (some true) else (scrimlaw09_SelectorWeighs.l0 k a1 0 l0_0 (l0_0.length : Int) 0 l0_0 l0_1)) = some r := H
    have A6 := Aside0.mk A60
    clear A60
    by_cases c7 : t231 = true
    · subst c7
      have H1 : (some true) = some r := by rw [if_pos rfl] at H; exact H
      clear H
      have H := H1
      clear H1
      obtain rfl := Option.some.inj H; clear hrt; try clear H
      go_enter Tryd.func5, Tryd.ntmps5
      go_wp2_with (first | ((with_reducible refine gate_dst (N := 2) rfl ?_); (try (refine gate_guard (by rfl) ?_; dsimp only)); refine box_event ?hg (N := 2) ?hd (cs := #[.slice A0_0 l0_0.length c0_0, .slice A0_1 l0_1.length c0_1]) (t := 25) ?hr ?_; (case hd => rfl); (case hg => rfl); (case hr => first | (go_simp; done) | (go_simp; rfl)); intro gb223 hg w8 hbox hb; have n0_ := Aside0.mk (Kd.V_below (Kd.V_elderB (by (with_reducible repeat (first | apply Kd.V_alloc | apply Kd.V_drewN | apply Kd.V_drew)); exact HO0_0.out) gb223 (Nat.le_of_eq hg.symm)) hb); have n1_ := Aside0.mk (Kd.V_below (Kd.V_elderB (by (with_reducible repeat (first | apply Kd.V_alloc | apply Kd.V_drewN | apply Kd.V_drew)); exact HO0_1.out) gb223 (Nat.le_of_eq hg.symm)) hb); have n2_ := Aside0.mk (below_step (by repeat (first | (with_reducible first | exact HB.out | apply below_alloc | apply pw_below_drewN | apply below_drew1) | exact HB.out)) hb); have n3_ := Aside0.mk (hbox); have n4_ := Aside0.mk ((by rw [hg]; exact (below_size (by repeat (first | (with_reducible first | exact HB.out | apply below_alloc | apply pw_below_drewN | apply below_drew1) | exact HB.out))) : w.heap.size ≤ gb223)); have n5_ := Aside0.mk ((by rw [hg]; exact (below_size (by repeat (first | (with_reducible first | exact HB.out | apply below_alloc | apply pw_below_drewN | apply below_drew1) | exact HB.out))) : w.heap.size ≤ gb223)); clear HO0_0; clear HO0_1; clear HB; have HO0_0 := n0_; have HO0_1 := n1_; have HB := n2_; have BK223 := n3_; have GW223 := n4_; have GE223 := n5_; clear n0_ n1_ n2_ n3_ n4_ n5_; clear hb hbox hg) | ((with_reducible refine gate_callee (f := 7) rfl ?_); refine goesL_ (some 9) rfl rfl Tryd.func7 (by kernel_rfl) rfl #[] rfl (by (try simp only [List.map_toArray, List.map_cons, List.map_nil]); first | done | rfl | (simp only [List.length_drop, List.length_take]; rfl)) ?_; (with_reducible refine (scrimlaw09_awake.calls k  true rfl _ A3.out (HMX.out.below (by repeat (first | (with_reducible first | exact HB.out | apply below_alloc | apply pw_below_drewN | apply below_drew1 | refine below_set ?_ GE223.out | refine below_set ?_ GE233.out | refine below_set ?_ GE245.out) | exact HB.out)))).mono ?_); rintro e w9 ⟨rfl, hb⟩; refine ⟨_, rfl, ?_⟩; have n0_ := Aside0.mk (Kd.V_below (by (with_reducible repeat (first | apply Kd.V_alloc | apply Kd.V_drewN | apply Kd.V_drew)); exact HO0_0.out) hb); have n1_ := Aside0.mk (Kd.V_below (by (with_reducible repeat (first | apply Kd.V_alloc | apply Kd.V_drewN | apply Kd.V_drew)); exact HO0_1.out) hb); have n2_ := Aside0.mk (blk_below (g := gb223) (o := .cells #[.slice A0_0 l0_0.length c0_0, .slice A0_1 l0_1.length c0_1] 25 (0, 0)) (by (with_reducible repeat (first | refine blk_drewN ?_ _ | refine blk_drew ?_ | refine blk_alloc ?_ _)); exact BK223.out) hb); have n3_ := Aside0.mk (below_step (by repeat (first | (with_reducible first | exact HB.out | apply below_alloc | apply pw_below_drewN | apply below_drew1 | refine below_set ?_ GE223.out) | exact HB.out)) hb); clear HO0_0; clear HO0_1; clear BK223; clear HB; have HO0_0 := n0_; have HO0_1 := n1_; have BK223 := n2_; have HB := n3_; clear n0_ n1_ n2_ n3_; (try clear hb); (try clear hb2); (try clear hk); (try clear hi); have hcz10_0 : w9.cell? ⟨gb223, 0, none⟩ = some (.slice A0_0 l0_0.length c0_0) := (blk_cell BK223.out 0).trans rfl; have hcz10_1 : w9.cell? ⟨gb223, 1, none⟩ = some (.slice A0_1 l0_1.length c0_1) := (blk_cell BK223.out 1).trans rfl; have hfz10_0 := blk_frozen BK223.out 0; have hfz10_1 := blk_frozen BK223.out 1) | ((with_reducible refine gate_callee (f := 9) rfl ?_); refine goesL_ (some 12) rfl rfl Tryd.func9 (by kernel_rfl) rfl #[.agg #[.slice A0_0 l0_0.length c0_0, .slice A0_1 l0_1.length c0_1]] rfl (by (try simp only [List.map_toArray, List.map_cons, List.map_nil]); first | done | rfl | (simp only [List.length_drop, List.length_take]; rfl)) ?_; (with_reducible refine (scrimlaw09_own.calls k (fun k_ => (((P0_0_ k_ ∨ P0_1_ k_) ∨ w.heap.size ≤ k_) ∧ k_ ≠ gb223)) _ _ l0_0 (fun k_ => (((P0_0_ k_ ∨ P0_1_ k_) ∨ w.heap.size ≤ k_) ∧ k_ ≠ gb223)) _ _ l0_1 t225 t228 _ ?side1 ?side2 A5.out).mono ?_); (case side1 => exact HO0_0.out); (case side2 => exact HO0_1.out); rintro e w11 ⟨v226, v229, rfl, ho0, ho1, hb⟩; refine ⟨_, rfl, ?_⟩; have n0_ := Aside0.mk (Kd.V_elder' (by (with_reducible repeat (first | apply Kd.V_alloc | apply Kd.V_drewN | apply Kd.V_drew)); exact HO0_0.out) (by first | exact Kd.N_base ho0 | exact Kd.S_base ho0) hb); have n1_ := Aside0.mk (Kd.V_elder' (by (with_reducible repeat (first | apply Kd.V_alloc | apply Kd.V_drewN | apply Kd.V_drew)); exact HO0_1.out) (by first | exact Kd.N_base ho0 | exact Kd.S_base ho0) hb); have n2_ := Aside0.mk (Kd.N_lower (Kd.N_mono (ok' := fun k_ => ((P0_0_ k_ ∨ P0_1_ k_) ∨ w.heap.size ≤ k_) ∧ k_ ≠ gb223) ho0 (fun k_ hk_ => ⟨Or.elim hk_ (fun hs_ => Or.elim hs_ (fun hs_ => hs_.1) (fun hs_ => hs_.1)) (fun hn_ => (.inr (Nat.le_trans (below_size (by repeat (first | (with_reducible first | exact HB.out | apply below_alloc | apply pw_below_drewN | apply below_drew1 | refine below_set ?_ GE223.out) | exact HB.out))) hn_))), Or.elim hk_ (fun hs_ => Or.elim hs_ (fun hs_ => hs_.2) (fun hs_ => hs_.2)) (fun hn_ => (Kd.freshB (g := gb223) (o := .cells #[.slice A0_0 l0_0.length c0_0, .slice A0_1 l0_1.length c0_1] 25 (0, 0)) (by (with_reducible repeat (first | refine blk_drewN ?_ _ | refine blk_drew ?_ | refine blk_alloc ?_ _)); exact BK223.out) k_ hn_))⟩)) (below_size (by repeat (first | (with_reducible first | exact HB.out | apply below_alloc | apply pw_below_drewN | apply below_drew1 | refine below_set ?_ GE223.out) | exact HB.out)))); have n3_ := Aside0.mk (Kd.V_lower (Kd.V_mono (ok' := fun k_ => ((P0_0_ k_ ∨ P0_1_ k_) ∨ w.heap.size ≤ k_) ∧ some k_ ≠ (v226 : Value).ownBlock ∧ k_ ≠ gb223) ho1 (fun k_ hk_ => ⟨Or.elim hk_.1 (fun hs_ => Or.elim hs_ (fun hs_ => hs_.1) (fun hs_ => hs_.1)) (fun hn_ => (.inr (Nat.le_trans (below_size (by repeat (first | (with_reducible first | exact HB.out | apply below_alloc | apply pw_below_drewN | apply below_drew1 | refine below_set ?_ GE223.out) | exact HB.out))) hn_))), hk_.2, Or.elim hk_.1 (fun hs_ => Or.elim hs_ (fun hs_ => hs_.2) (fun hs_ => hs_.2)) (fun hn_ => (Kd.freshB (g := gb223) (o := .cells #[.slice A0_0 l0_0.length c0_0, .slice A0_1 l0_1.length c0_1] 25 (0, 0)) (by (with_reducible repeat (first | refine blk_drewN ?_ _ | refine blk_drew ?_ | refine blk_alloc ?_ _)); exact BK223.out) k_ hn_))⟩)) (below_size (by repeat (first | (with_reducible first | exact HB.out | apply below_alloc | apply pw_below_drewN | apply below_drew1 | refine below_set ?_ GE223.out) | exact HB.out)))); have n4_ := Aside0.mk (blk_below (g := gb223) (o := .cells #[.slice A0_0 l0_0.length c0_0, .slice A0_1 l0_1.length c0_1] 25 (0, 0)) (by (with_reducible repeat (first | refine blk_drewN ?_ _ | refine blk_drew ?_ | refine blk_alloc ?_ _)); exact BK223.out) hb); have n5_ := Aside0.mk (below_step (by repeat (first | (with_reducible first | exact HB.out | apply below_alloc | apply pw_below_drewN | apply below_drew1 | refine below_set ?_ GE223.out) | exact HB.out)) hb); clear HO0_0; clear HO0_1; clear BK223; clear HB; have HO0_0 := n0_; have HO0_1 := n1_; have HO227 := n2_; have HO230 := n3_; have BK223 := n4_; have HB := n5_; clear n0_ n1_ n2_ n3_ n4_ n5_; (try clear hb); (try clear hb2); (try clear hk); (try clear hi); (try clear ho0); (try clear ho1); obtain ⟨Ao12, co12, eo12⟩ := Kd.N_slice HO227.out; subst eo12; obtain ⟨Ao13, co13, eo13⟩ := Kd.V_slice HO230.out; subst eo13) | ((with_reducible refine gate_callee (f := 8) rfl ?_); refine goesL_ (some 13) rfl rfl Tryd.func8 (by kernel_rfl) rfl #[.agg #[.slice Ao12 t225.length co12, .slice Ao13 t228.length co13]] rfl (by (try simp only [List.map_toArray, List.map_cons, List.map_nil]); first | done | rfl | (simp only [List.length_drop, List.length_take]; rfl)) ?_; (with_reducible refine (scrimref09_Large.calls k _ _ t225 _ _ t228 true _ ?side1 ?side2 ?side3 ?side4 A6.out).mono ?_); (case side1 => repeat (first | exact (Kd.N_reads' HO227.out).2.2 | (with_reducible refine Kd.C_alloc ?_ _) | (with_reducible refine Kd.C_drewN ?_ _) | (with_reducible refine Kd.C_drew ?_))); (case side2 => exact (Kd.N_reads' HO227.out).2.1); (case side3 => repeat (first | exact (Kd.V_reads' HO230.out).2.2 | (with_reducible refine Kd.C_alloc ?_ _) | (with_reducible refine Kd.C_drewN ?_ _) | (with_reducible refine Kd.C_drew ?_))); (case side4 => exact (Kd.V_reads' HO230.out).2.1); rintro e w14 ⟨rfl, hb⟩; refine ⟨_, rfl, ?_⟩; have n0_ := Aside0.mk (Kd.V_below (by (with_reducible repeat (first | apply Kd.V_alloc | apply Kd.V_drewN | apply Kd.V_drew)); exact HO0_0.out) hb); have n1_ := Aside0.mk (Kd.V_below (by (with_reducible repeat (first | apply Kd.V_alloc | apply Kd.V_drewN | apply Kd.V_drew)); exact HO0_1.out) hb); have n2_ := Aside0.mk (Kd.N_below (by (with_reducible repeat (first | apply Kd.N_alloc | apply Kd.N_drewN | apply Kd.N_drew)); exact HO227.out) hb); have n3_ := Aside0.mk (Kd.V_below (by (with_reducible repeat (first | apply Kd.V_alloc | apply Kd.V_drewN | apply Kd.V_drew)); exact HO230.out) hb); have n4_ := Aside0.mk (blk_below (g := gb223) (o := .cells #[.slice A0_0 l0_0.length c0_0, .slice A0_1 l0_1.length c0_1] 25 (0, 0)) (by (with_reducible repeat (first | refine blk_drewN ?_ _ | refine blk_drew ?_ | refine blk_alloc ?_ _)); exact BK223.out) hb); have n5_ := Aside0.mk (below_step (by repeat (first | (with_reducible first | exact HB.out | apply below_alloc | apply pw_below_drewN | apply below_drew1 | refine below_set ?_ GE223.out) | exact HB.out)) hb); clear HO0_0; clear HO0_1; clear HO227; clear HO230; clear BK223; clear HB; have HO0_0 := n0_; have HO0_1 := n1_; have HO227 := n2_; have HO230 := n3_; have BK223 := n4_; have HB := n5_; clear n0_ n1_ n2_ n3_ n4_ n5_; (try clear hb); (try clear hb2); (try clear hk); (try clear hi)))
      go_ret
      exact ⟨by first | rfl | (simp [errW_none, errW_some] <;> rfl) | (simp [*, errW_none, errW_some] <;> rfl), by repeat (first | (with_reducible first | exact HB.out | apply below_alloc | apply pw_below_drewN | apply below_drew1 | refine below_set ?_ GE223.out) | exact HB.out)⟩
    · replace c7 := Bool.eq_false_iff.mpr c7
      subst c7
      have H1 : (scrimlaw09_SelectorWeighs.l0 k a1 0 l0_0 (l0_0.length : Int) 0 l0_0 l0_1) = some r := by rw [if_neg (show ¬ (false = true) by decide)] at H; exact H
      clear H
      have H := H1
      clear H1
      have H' := Aside0.mk H
      clear H
      go_enter Tryd.func5, Tryd.ntmps5
      go_wp2_with (first | ((with_reducible refine gate_dst (N := 2) rfl ?_); (try (refine gate_guard (by rfl) ?_; dsimp only)); refine box_event ?hg (N := 2) ?hd (cs := #[.slice A0_0 l0_0.length c0_0, .slice A0_1 l0_1.length c0_1]) (t := 25) ?hr ?_; (case hd => rfl); (case hg => rfl); (case hr => first | (go_simp; done) | (go_simp; rfl)); intro gb223 hg w15 hbox hb; have n0_ := Aside0.mk (Kd.V_below (Kd.V_elderB (by (with_reducible repeat (first | apply Kd.V_alloc | apply Kd.V_drewN | apply Kd.V_drew)); exact HO0_0.out) gb223 (Nat.le_of_eq hg.symm)) hb); have n1_ := Aside0.mk (Kd.V_below (Kd.V_elderB (by (with_reducible repeat (first | apply Kd.V_alloc | apply Kd.V_drewN | apply Kd.V_drew)); exact HO0_1.out) gb223 (Nat.le_of_eq hg.symm)) hb); have n2_ := Aside0.mk (below_step (by repeat (first | (with_reducible first | exact HB.out | apply below_alloc | apply pw_below_drewN | apply below_drew1) | exact HB.out)) hb); have n3_ := Aside0.mk (hbox); have n4_ := Aside0.mk ((by rw [hg]; exact (below_size (by repeat (first | (with_reducible first | exact HB.out | apply below_alloc | apply pw_below_drewN | apply below_drew1) | exact HB.out))) : w.heap.size ≤ gb223)); have n5_ := Aside0.mk ((by rw [hg]; exact (below_size (by repeat (first | (with_reducible first | exact HB.out | apply below_alloc | apply pw_below_drewN | apply below_drew1) | exact HB.out))) : w.heap.size ≤ gb223)); clear HO0_0; clear HO0_1; clear HB; have HO0_0 := n0_; have HO0_1 := n1_; have HB := n2_; have BK223 := n3_; have GW223 := n4_; have GE223 := n5_; clear n0_ n1_ n2_ n3_ n4_ n5_; clear hb hbox hg) | ((with_reducible refine gate_callee (f := 7) rfl ?_); refine goesL_ (some 9) rfl rfl Tryd.func7 (by kernel_rfl) rfl #[] rfl (by (try simp only [List.map_toArray, List.map_cons, List.map_nil]); first | done | rfl | (simp only [List.length_drop, List.length_take]; rfl)) ?_; (with_reducible refine (scrimlaw09_awake.calls k  true rfl _ A3.out (HMX.out.below (by repeat (first | (with_reducible first | exact HB.out | apply below_alloc | apply pw_below_drewN | apply below_drew1 | refine below_set ?_ GE223.out | refine below_set ?_ GE233.out | refine below_set ?_ GE245.out) | exact HB.out)))).mono ?_); rintro e w16 ⟨rfl, hb⟩; refine ⟨_, rfl, ?_⟩; have n0_ := Aside0.mk (Kd.V_below (by (with_reducible repeat (first | apply Kd.V_alloc | apply Kd.V_drewN | apply Kd.V_drew)); exact HO0_0.out) hb); have n1_ := Aside0.mk (Kd.V_below (by (with_reducible repeat (first | apply Kd.V_alloc | apply Kd.V_drewN | apply Kd.V_drew)); exact HO0_1.out) hb); have n2_ := Aside0.mk (blk_below (g := gb223) (o := .cells #[.slice A0_0 l0_0.length c0_0, .slice A0_1 l0_1.length c0_1] 25 (0, 0)) (by (with_reducible repeat (first | refine blk_drewN ?_ _ | refine blk_drew ?_ | refine blk_alloc ?_ _)); exact BK223.out) hb); have n3_ := Aside0.mk (below_step (by repeat (first | (with_reducible first | exact HB.out | apply below_alloc | apply pw_below_drewN | apply below_drew1 | refine below_set ?_ GE223.out) | exact HB.out)) hb); clear HO0_0; clear HO0_1; clear BK223; clear HB; have HO0_0 := n0_; have HO0_1 := n1_; have BK223 := n2_; have HB := n3_; clear n0_ n1_ n2_ n3_; (try clear hb); (try clear hb2); (try clear hk); (try clear hi); have hcz17_0 : w16.cell? ⟨gb223, 0, none⟩ = some (.slice A0_0 l0_0.length c0_0) := (blk_cell BK223.out 0).trans rfl; have hcz17_1 : w16.cell? ⟨gb223, 1, none⟩ = some (.slice A0_1 l0_1.length c0_1) := (blk_cell BK223.out 1).trans rfl; have hfz17_0 := blk_frozen BK223.out 0; have hfz17_1 := blk_frozen BK223.out 1) | ((with_reducible refine gate_callee (f := 9) rfl ?_); refine goesL_ (some 12) rfl rfl Tryd.func9 (by kernel_rfl) rfl #[.agg #[.slice A0_0 l0_0.length c0_0, .slice A0_1 l0_1.length c0_1]] rfl (by (try simp only [List.map_toArray, List.map_cons, List.map_nil]); first | done | rfl | (simp only [List.length_drop, List.length_take]; rfl)) ?_; (with_reducible refine (scrimlaw09_own.calls k (fun k_ => (((P0_0_ k_ ∨ P0_1_ k_) ∨ w.heap.size ≤ k_) ∧ k_ ≠ gb223)) _ _ l0_0 (fun k_ => (((P0_0_ k_ ∨ P0_1_ k_) ∨ w.heap.size ≤ k_) ∧ k_ ≠ gb223)) _ _ l0_1 t225 t228 _ ?side1 ?side2 A5.out).mono ?_); (case side1 => exact HO0_0.out); (case side2 => exact HO0_1.out); rintro e w18 ⟨v226, v229, rfl, ho0, ho1, hb⟩; refine ⟨_, rfl, ?_⟩; have n0_ := Aside0.mk (Kd.V_elder' (by (with_reducible repeat (first | apply Kd.V_alloc | apply Kd.V_drewN | apply Kd.V_drew)); exact HO0_0.out) (by first | exact Kd.N_base ho0 | exact Kd.S_base ho0) hb); have n1_ := Aside0.mk (Kd.V_elder' (by (with_reducible repeat (first | apply Kd.V_alloc | apply Kd.V_drewN | apply Kd.V_drew)); exact HO0_1.out) (by first | exact Kd.N_base ho0 | exact Kd.S_base ho0) hb); have n2_ := Aside0.mk (Kd.N_lower (Kd.N_mono (ok' := fun k_ => ((P0_0_ k_ ∨ P0_1_ k_) ∨ w.heap.size ≤ k_) ∧ k_ ≠ gb223) ho0 (fun k_ hk_ => ⟨Or.elim hk_ (fun hs_ => Or.elim hs_ (fun hs_ => hs_.1) (fun hs_ => hs_.1)) (fun hn_ => (.inr (Nat.le_trans (below_size (by repeat (first | (with_reducible first | exact HB.out | apply below_alloc | apply pw_below_drewN | apply below_drew1 | refine below_set ?_ GE223.out) | exact HB.out))) hn_))), Or.elim hk_ (fun hs_ => Or.elim hs_ (fun hs_ => hs_.2) (fun hs_ => hs_.2)) (fun hn_ => (Kd.freshB (g := gb223) (o := .cells #[.slice A0_0 l0_0.length c0_0, .slice A0_1 l0_1.length c0_1] 25 (0, 0)) (by (with_reducible repeat (first | refine blk_drewN ?_ _ | refine blk_drew ?_ | refine blk_alloc ?_ _)); exact BK223.out) k_ hn_))⟩)) (below_size (by repeat (first | (with_reducible first | exact HB.out | apply below_alloc | apply pw_below_drewN | apply below_drew1 | refine below_set ?_ GE223.out) | exact HB.out)))); have n3_ := Aside0.mk (Kd.V_lower (Kd.V_mono (ok' := fun k_ => ((P0_0_ k_ ∨ P0_1_ k_) ∨ w.heap.size ≤ k_) ∧ some k_ ≠ (v226 : Value).ownBlock ∧ k_ ≠ gb223) ho1 (fun k_ hk_ => ⟨Or.elim hk_.1 (fun hs_ => Or.elim hs_ (fun hs_ => hs_.1) (fun hs_ => hs_.1)) (fun hn_ => (.inr (Nat.le_trans (below_size (by repeat (first | (with_reducible first | exact HB.out | apply below_alloc | apply pw_below_drewN | apply below_drew1 | refine below_set ?_ GE223.out) | exact HB.out))) hn_))), hk_.2, Or.elim hk_.1 (fun hs_ => Or.elim hs_ (fun hs_ => hs_.2) (fun hs_ => hs_.2)) (fun hn_ => (Kd.freshB (g := gb223) (o := .cells #[.slice A0_0 l0_0.length c0_0, .slice A0_1 l0_1.length c0_1] 25 (0, 0)) (by (with_reducible repeat (first | refine blk_drewN ?_ _ | refine blk_drew ?_ | refine blk_alloc ?_ _)); exact BK223.out) k_ hn_))⟩)) (below_size (by repeat (first | (with_reducible first | exact HB.out | apply below_alloc | apply pw_below_drewN | apply below_drew1 | refine below_set ?_ GE223.out) | exact HB.out)))); have n4_ := Aside0.mk (blk_below (g := gb223) (o := .cells #[.slice A0_0 l0_0.length c0_0, .slice A0_1 l0_1.length c0_1] 25 (0, 0)) (by (with_reducible repeat (first | refine blk_drewN ?_ _ | refine blk_drew ?_ | refine blk_alloc ?_ _)); exact BK223.out) hb); have n5_ := Aside0.mk (below_step (by repeat (first | (with_reducible first | exact HB.out | apply below_alloc | apply pw_below_drewN | apply below_drew1 | refine below_set ?_ GE223.out) | exact HB.out)) hb); clear HO0_0; clear HO0_1; clear BK223; clear HB; have HO0_0 := n0_; have HO0_1 := n1_; have HO227 := n2_; have HO230 := n3_; have BK223 := n4_; have HB := n5_; clear n0_ n1_ n2_ n3_ n4_ n5_; (try clear hb); (try clear hb2); (try clear hk); (try clear hi); (try clear ho0); (try clear ho1); obtain ⟨Ao19, co19, eo19⟩ := Kd.N_slice HO227.out; subst eo19; obtain ⟨Ao20, co20, eo20⟩ := Kd.V_slice HO230.out; subst eo20) | ((with_reducible refine gate_callee (f := 8) rfl ?_); refine goesL_ (some 13) rfl rfl Tryd.func8 (by kernel_rfl) rfl #[.agg #[.slice Ao19 t225.length co19, .slice Ao20 t228.length co20]] rfl (by (try simp only [List.map_toArray, List.map_cons, List.map_nil]); first | done | rfl | (simp only [List.length_drop, List.length_take]; rfl)) ?_; (with_reducible refine (scrimref09_Large.calls k _ _ t225 _ _ t228 false _ ?side1 ?side2 ?side3 ?side4 A6.out).mono ?_); (case side1 => repeat (first | exact (Kd.N_reads' HO227.out).2.2 | (with_reducible refine Kd.C_alloc ?_ _) | (with_reducible refine Kd.C_drewN ?_ _) | (with_reducible refine Kd.C_drew ?_))); (case side2 => exact (Kd.N_reads' HO227.out).2.1); (case side3 => repeat (first | exact (Kd.V_reads' HO230.out).2.2 | (with_reducible refine Kd.C_alloc ?_ _) | (with_reducible refine Kd.C_drewN ?_ _) | (with_reducible refine Kd.C_drew ?_))); (case side4 => exact (Kd.V_reads' HO230.out).2.1); rintro e w21 ⟨rfl, hb⟩; refine ⟨_, rfl, ?_⟩; have n0_ := Aside0.mk (Kd.V_below (by (with_reducible repeat (first | apply Kd.V_alloc | apply Kd.V_drewN | apply Kd.V_drew)); exact HO0_0.out) hb); have n1_ := Aside0.mk (Kd.V_below (by (with_reducible repeat (first | apply Kd.V_alloc | apply Kd.V_drewN | apply Kd.V_drew)); exact HO0_1.out) hb); have n2_ := Aside0.mk (Kd.N_below (by (with_reducible repeat (first | apply Kd.N_alloc | apply Kd.N_drewN | apply Kd.N_drew)); exact HO227.out) hb); have n3_ := Aside0.mk (Kd.V_below (by (with_reducible repeat (first | apply Kd.V_alloc | apply Kd.V_drewN | apply Kd.V_drew)); exact HO230.out) hb); have n4_ := Aside0.mk (blk_below (g := gb223) (o := .cells #[.slice A0_0 l0_0.length c0_0, .slice A0_1 l0_1.length c0_1] 25 (0, 0)) (by (with_reducible repeat (first | refine blk_drewN ?_ _ | refine blk_drew ?_ | refine blk_alloc ?_ _)); exact BK223.out) hb); have n5_ := Aside0.mk (below_step (by repeat (first | (with_reducible first | exact HB.out | apply below_alloc | apply pw_below_drewN | apply below_drew1 | refine below_set ?_ GE223.out) | exact HB.out)) hb); clear HO0_0; clear HO0_1; clear HO227; clear HO230; clear BK223; clear HB; have HO0_0 := n0_; have HO0_1 := n1_; have HO227 := n2_; have HO230 := n3_; have BK223 := n4_; have HB := n5_; clear n0_ n1_ n2_ n3_ n4_ n5_; (try clear hb); (try clear hb2); (try clear hk); (try clear hi); have hcz22_0 : w21.cell? ⟨gb223, 0, none⟩ = some (.slice A0_0 l0_0.length c0_0) := (blk_cell BK223.out 0).trans rfl; have hcz22_1 : w21.cell? ⟨gb223, 1, none⟩ = some (.slice A0_1 l0_1.length c0_1) := (blk_cell BK223.out 1).trans rfl; have hfz22_0 := blk_frozen BK223.out 0; have hfz22_1 := blk_frozen BK223.out 1))
      go_loopg [5, 17] k (fun kq v5 v17 w' => ∃ (x5_1 : Int) (x17_1 : Int), v5 = .int .i64 x5_1 ∧ v17 = .int .i64 x17_1 ∧ Aside0 (scrimlaw09_SelectorWeighs.l0 kq a1 x5_1 l0_0 (l0_0.length : Int) x17_1 l0_0 l0_1 = some r) ∧ Aside0 (kq ≤ k) ∧ Aside0 (Kd.V k44 44 w' w.heap.size (fun k_ => ((P0_0_ k_ ∨ P0_1_ k_) ∨ w.heap.size ≤ k_) ∧ k_ ≠ gb223) (.slice A0_0 l0_0.length c0_0) l0_0) ∧ Aside0 (Kd.V k44 44 w' w.heap.size (fun k_ => ((P0_0_ k_ ∨ P0_1_ k_) ∨ w.heap.size ≤ k_) ∧ k_ ≠ gb223) (.slice A0_0 l0_0.length c0_0) l0_0) ∧ Aside0 (Kd.V Kd.bool 4 w' w.heap.size (fun k_ => ((P0_0_ k_ ∨ P0_1_ k_) ∨ w.heap.size ≤ k_) ∧ k_ ≠ gb223) (.slice A0_1 l0_1.length c0_1) l0_1) ∧ Aside0 (w'.heap[gb223]? = some (.cells #[(.slice A0_0 l0_0.length c0_0), (.slice A0_1 l0_1.length c0_1)] 25 (0, 0))) ∧ Aside0 (Below w.heap.size w w'))
      case atStart => exact ⟨(0), (0), (by first | rfl | (simp; done) | (simp [*]; done)), (by first | rfl | (simp; done) | (simp [*]; done)), H', ⟨Nat.le_refl _⟩, ⟨by (with_reducible repeat (first | apply Kd.V_alloc | apply Kd.V_drewN | apply Kd.V_drew)); exact Kd.V_mono HO0_0.out (fun _ hk => ⟨hk.1.1, hk.1.2⟩)⟩, ⟨by (with_reducible repeat (first | apply Kd.V_alloc | apply Kd.V_drewN | apply Kd.V_drew)); exact Kd.V_mono HO0_0.out (fun _ hk => ⟨hk.1.1, hk.1.2⟩)⟩, ⟨by (with_reducible repeat (first | apply Kd.V_alloc | apply Kd.V_drewN | apply Kd.V_drew)); exact Kd.V_mono HO0_1.out (fun _ hk => ⟨hk.1.1, hk.1.2⟩)⟩, ⟨by (with_reducible repeat (first | refine blk_drewN ?_ _ | refine blk_drew ?_ | refine blk_alloc ?_ _)); exact BK223.out⟩, ⟨by repeat (first | (with_reducible first | exact HB.out | apply below_alloc | apply pw_below_drewN | apply below_drew1 | refine below_set ?_ GE223.out) | exact HB.out)⟩⟩
      case round =>
        clear H'
        try clear p2
        try clear c4
        try clear c5
        try clear c7
        try clear c8
        try clear c9
        try clear hcz10_0
        try clear hcz10_1
        try clear hcz17_0
        try clear hcz17_1
        try clear hcz22_0
        try clear hcz22_1
        try clear hfz10_0
        try clear hfz10_1
        try clear hfz17_0
        try clear hfz17_1
        try clear hfz22_0
        try clear hfz22_1
        obtain ⟨x5_1, x17_1, rfl, rfl, HA, HK1, HO_15, HO_224000, HO_224001, BK223, HB⟩ := hrel
        cases gk with
        | zero => exact absurd HA.out (by simp [scrimlaw09_SelectorWeighs.l0])
        | succ k1 =>
          have H := HA.out
          clear HA
          simp only [scrimlaw09_SelectorWeighs.l0] at H
          by_cases c23 : x17_1 < (l0_0.length : Int)
          · rw [if_pos c23] at H
            have c23b0 : decide (x17_1 < (l0_0.length : Int)) = true := decide_eq_true c23
            clear c23
            by_cases c24 : 0 ≤ x17_1
            · rw [if_pos c24] at H
              have c24b0 : decide (0 ≤ x17_1) = true := decide_eq_true c24
              clear c24
              by_cases c25 : x17_1 < (l0_0.length : Int)
              · rw [if_pos c25] at H
                have c25b0 : decide (x17_1 < (l0_0.length : Int)) = true := decide_eq_true c25
                clear c25
                obtain ⟨y234, hy234⟩ : ∃ y_ : List (S44), y_ = (([(⟨(rd_T44 l0_0 x17_1).f0, (rd_T44 l0_0 x17_1).f1, (rd_T44 l0_0 x17_1).f2, (rd_T44 l0_0 x17_1).f3, (rd_T44 l0_0 x17_1).f4⟩ : S44)] : List (S44))) := ⟨_, rfl⟩
                replace H : ((selector_Weight.f k1 y234 ([] : List Bool)).bind fun t237 => (scrimlaw09_SelectorWeighs.l0 k1 a1 (wrap64 (x5_1 + t237)) l0_0 (l0_0.length : Int) (wrap64 (x17_1 + 1)) l0_0 l0_1)) = some r := by first | (rw [hy234]; with_reducible exact H) | (have H2_ := (Option.bind_some _ _).symm.trans H; rw [hy234]; with_reducible exact H2_) | (have H2_ := (Option.bind_some _ _).symm.trans H; with_reducible exact H2_) | with_reducible exact H | (rw [hy234]; exact H) | exact H
                have Ny234 := Aside0.mk hy234
                clear hy234
                replace H := Option.bind_eq_some_iff.mp H
                obtain ⟨t237, A260, H⟩ := H
                replace H : (scrimlaw09_SelectorWeighs.l0 k1 a1 (wrap64 (x5_1 + t237)) l0_0 (l0_0.length : Int) (wrap64 (x17_1 + 1)) l0_0 l0_1) = some r := H
                have A26 := Aside0.mk A260
                clear A260
                have H' := Aside0.mk H
                clear H
                have p232 : 0 ≤ (x17_1 : Int) := of_decide_eq_true (by first | (with_reducible assumption) | assumption)
                have q232 : x17_1 < (l0_0.length : Int) := of_decide_eq_true (by first | (with_reducible assumption) | assumption)
                obtain ⟨ad232, A232_1, c232_1, A232_2, c232_2, e232, hx232_0, hx232_1, hx232_2, hx232_3, hx232_4, hl232_1, hi232_1, hl232_2, hi232_2⟩ := at_T44 (Kd.V_reads' HO_15.out).2.2 x17_1 p232 q232
                cases e232
                obtain ⟨ce232, hce232, hMe232, hcc232⟩ := Kd.V_get HO_15.out z44 x17_1 p232 (by first | exact q232 | exact of_decide_eq_true (by first | (with_reducible assumption) | assumption) | (have e_ := (Kd.V_reads' HO_15.out).1; omega))
                obtain ⟨ua232_1, uc232_1, ua232_2, uc232_2, rfl, ul232_1, ge232_1, ul232_2, ge232_2⟩ := k44_openF hMe232
                have hv232_1 := hcc232 1 _ rfl
                rw [add_field _ _ 1 (by omega)] at hv232_1
                replace hv232_1 := Option.some.inj (hv232_1.symm.trans hx232_1)
                injection hv232_1 with hva_ hvn_ hvc_
                rw [hva_] at ge232_1
                rw [hvc_] at ul232_1
                have HL232_1 := Aside0.mk (show Kd.V Kd.string 9 _ w.heap.size _ _ ((rd_T44 l0_0 x17_1).f1) from Kd.V_mk ul232_1 ge232_1)
                clear hva_ hvn_ hvc_ ge232_1 ul232_1
                have hv232_2 := hcc232 2 _ rfl
                rw [add_field _ _ 2 (by omega)] at hv232_2
                replace hv232_2 := Option.some.inj (hv232_2.symm.trans hx232_2)
                injection hv232_2 with hva_ hvn_ hvc_
                rw [hva_] at ge232_2
                rw [hvc_] at ul232_2
                have HL232_2 := Aside0.mk (show Kd.V Kd.string 9 _ w.heap.size _ _ ((rd_T44 l0_0 x17_1).f2) from Kd.V_mk ul232_2 ge232_2)
                clear hva_ hvn_ hvc_ ge232_2 ul232_2
                clear hcc232 hce232
                have HR232_1 := Aside0.mk hi232_1
                have HC232_1 := Aside0.mk hl232_1
                clear hi232_1 hl232_1
                have HR232_2 := Aside0.mk hi232_2
                have HC232_2 := Aside0.mk hl232_2
                clear hi232_2 hl232_2
                replace p232 := eq_true p232
                replace q232 := eq_true q232
                go_wp2_with (first | ((with_reducible refine gate_dst (N := 7) rfl ?_); (try (refine gate_guard (by rfl) ?_; dsimp only)); refine box_event ?hg (N := 7) ?hd (cs := #[.string (⟨#[]⟩ : ByteArray), .slice none 0 0, .slice none 0 0, .bool false, .bool false]) (t := 44) ?hr ?_; (case hd => rfl); (case hg => rfl); (case hr => first | (go_simp; done) | (go_simp; rfl)); intro gb233 hg w27 hbox hb; have n0_ := Aside0.mk (Kd.V_below (Kd.V_elderB (by (with_reducible repeat (first | apply Kd.V_alloc | apply Kd.V_drewN | apply Kd.V_drew)); exact HO_15.out) gb233 (Nat.le_of_eq hg.symm)) hb); have n1_ := Aside0.mk (Kd.V_below (Kd.V_elderB (by (with_reducible repeat (first | apply Kd.V_alloc | apply Kd.V_drewN | apply Kd.V_drew)); exact HO_224000.out) gb233 (Nat.le_of_eq hg.symm)) hb); have n2_ := Aside0.mk (Kd.V_below (Kd.V_elderB (by (with_reducible repeat (first | apply Kd.V_alloc | apply Kd.V_drewN | apply Kd.V_drew)); exact HO_224001.out) gb233 (Nat.le_of_eq hg.symm)) hb); have n3_ := Aside0.mk (Kd.V_below (Kd.V_elderB (by (with_reducible repeat (first | apply Kd.V_alloc | apply Kd.V_drewN | apply Kd.V_drew)); exact HL232_1.out) gb233 (Nat.le_of_eq hg.symm)) hb); have n4_ := Aside0.mk (Kd.V_below (Kd.V_elderB (by (with_reducible repeat (first | apply Kd.V_alloc | apply Kd.V_drewN | apply Kd.V_drew)); exact HL232_2.out) gb233 (Nat.le_of_eq hg.symm)) hb); have n5_ := Aside0.mk (blk_below (g := gb223) (o := .cells #[.slice (some ad232) l0_0.length c0_0, .slice A0_1 l0_1.length c0_1] 25 (0, 0)) (by (with_reducible repeat (first | refine blk_drewN ?_ _ | refine blk_drew ?_ | refine blk_alloc ?_ _)); exact BK223.out) hb); have n6_ := Aside0.mk trivial; have n7_ := Aside0.mk trivial; have n8_ := Aside0.mk (below_step (by repeat (first | (with_reducible first | exact HB.out | apply below_alloc | apply pw_below_drewN | apply below_drew1 | refine below_set ?_ GE223.out) | exact HB.out)) hb); have n9_ := Aside0.mk (hbox); have n10_ := Aside0.mk ((by rw [hg]; exact (below_size (by repeat (first | (with_reducible first | exact HB.out | apply below_alloc | apply pw_below_drewN | apply below_drew1 | refine below_set ?_ GE223.out) | exact HB.out))) : w.heap.size ≤ gb233)); have n11_ := Aside0.mk ((by rw [hg]; exact (below_size (by repeat (first | (with_reducible first | exact HB.out | apply below_alloc | apply pw_below_drewN | apply below_drew1 | refine below_set ?_ GE223.out) | exact HB.out))) : w.heap.size ≤ gb233)); have n12_ := Aside0.mk ((by rw [hg]; exact Nat.ne_of_lt (blk_lt (g := gb223) (o := .cells #[.slice (some ad232) l0_0.length c0_0, .slice A0_1 l0_1.length c0_1] 25 (0, 0)) (by (with_reducible repeat (first | refine blk_drewN ?_ _ | refine blk_drew ?_ | refine blk_alloc ?_ _)); exact BK223.out)) : gb223 ≠ gb233)); have n13_ := Aside0.mk ((by rw [hg]; exact Nat.ne_of_gt (blk_lt (g := gb223) (o := .cells #[.slice (some ad232) l0_0.length c0_0, .slice A0_1 l0_1.length c0_1] 25 (0, 0)) (by (with_reducible repeat (first | refine blk_drewN ?_ _ | refine blk_drew ?_ | refine blk_alloc ?_ _)); exact BK223.out)) : gb233 ≠ gb223)); clear HO_15; clear HO_224000; clear HO_224001; clear HL232_1; clear HL232_2; clear BK223; clear HR232_1; clear HR232_2; clear HB; have HO_15 := n0_; have HO_224000 := n1_; have HO_224001 := n2_; have HL232_1 := n3_; have HL232_2 := n4_; have BK223 := n5_; have HR232_1 := n6_; have HR232_2 := n7_; have HB := n8_; have BK233 := n9_; have GW233 := n10_; have GE233 := n11_; have NB223_233 := n12_; have NB233_223 := n13_; clear n0_ n1_ n2_ n3_ n4_ n5_ n6_ n7_ n8_ n9_ n10_ n11_ n12_ n13_; clear hb hbox hg; have hnb28 := NB233_223.out; have hnc28 := NB223_233.out; have hcz29_0 : w27.cell? ⟨gb233, 0, none⟩ = some (.string (⟨#[]⟩ : ByteArray)) := (blk_cell BK233.out 0).trans rfl; have hcz29_1 : w27.cell? ⟨gb233, 1, none⟩ = some (.slice none 0 0) := (blk_cell BK233.out 1).trans rfl; have hcz29_2 : w27.cell? ⟨gb233, 2, none⟩ = some (.slice none 0 0) := (blk_cell BK233.out 2).trans rfl; have hcz29_3 : w27.cell? ⟨gb233, 3, none⟩ = some (.bool false) := (blk_cell BK233.out 3).trans rfl; have hcz29_4 : w27.cell? ⟨gb233, 4, none⟩ = some (.bool false) := (blk_cell BK233.out 4).trans rfl; have hfz29_0 := blk_frozen BK233.out 0; have hfz29_1 := blk_frozen BK233.out 1; have hfz29_2 := blk_frozen BK233.out 2; have hfz29_3 := blk_frozen BK233.out 3; have hfz29_4 := blk_frozen BK233.out 4) | ((with_reducible refine gate_store (t := 44) (p := 7) rfl ?_); refine store_event (t := 44) (p := 7) (v := ?vo_w30) (w1 := (((((w27.setCell ⟨gb233, 0, none⟩ (.string ((rd_T44 l0_0 x17_1).f0))).setCell ⟨gb233, 1, none⟩ (.slice A232_1 ((rd_T44 l0_0 x17_1).f1).length c232_1)).setCell ⟨gb233, 2, none⟩ (.slice A232_2 ((rd_T44 l0_0 x17_1).f2).length c232_2)).setCell ⟨gb233, 3, none⟩ (.bool ((rd_T44 l0_0 x17_1).f3))).setCell ⟨gb233, 4, none⟩ (.bool ((rd_T44 l0_0 x17_1).f4)))) ?hg ?ho ?hn ?hr ?_; (case ho => rfl); (case hg => rfl); (case hn => rfl); (case hr => first | (go_simp; done) | (go_simp; rfl)); intro w30 hw; have n0_ : Aside0 (Kd.V k44 44 w30 w.heap.size (fun k_ => ((P0_0_ k_ ∨ P0_1_ k_) ∨ w.heap.size ≤ k_) ∧ k_ ≠ gb223 ∧ k_ ≠ gb233) (.slice (some ad232) l0_0.length c0_0) l0_0) := ⟨(by rw [hw]; exact (by (with_reducible repeat (first | apply Kd.V_alloc | apply Kd.V_drewN | apply Kd.V_drew)); exact Kd.V_mono (Kd.V_far (p := ⟨gb233, 4, none⟩) (Kd.V_far (p := ⟨gb233, 3, none⟩) (Kd.V_far (p := ⟨gb233, 2, none⟩) (Kd.V_far (p := ⟨gb233, 1, none⟩) (Kd.V_far (p := ⟨gb233, 0, none⟩) (Kd.V_mono HO_15.out (fun k_ hk => (⟨hk, hk.2⟩ : _ ∧ k_ ≠ gb233))) (fun _ hk => hk.2) (.string ((rd_T44 l0_0 x17_1).f0))) (fun _ hk => hk.2) (.slice A232_1 ((rd_T44 l0_0 x17_1).f1).length c232_1)) (fun _ hk => hk.2) (.slice A232_2 ((rd_T44 l0_0 x17_1).f2).length c232_2)) (fun _ hk => hk.2) (.bool ((rd_T44 l0_0 x17_1).f3))) (fun _ hk => hk.2) (.bool ((rd_T44 l0_0 x17_1).f4))) (fun _ hk => ⟨hk.1.1.1, ⟨hk.1.1.2, hk.1.2⟩⟩)))⟩; have n1_ : Aside0 (Kd.V k44 44 w30 w.heap.size (fun k_ => ((P0_0_ k_ ∨ P0_1_ k_) ∨ w.heap.size ≤ k_) ∧ k_ ≠ gb223 ∧ k_ ≠ gb233) (.slice (some ad232) l0_0.length c0_0) l0_0) := ⟨(by rw [hw]; exact (by (with_reducible repeat (first | apply Kd.V_alloc | apply Kd.V_drewN | apply Kd.V_drew)); exact Kd.V_mono (Kd.V_far (p := ⟨gb233, 4, none⟩) (Kd.V_far (p := ⟨gb233, 3, none⟩) (Kd.V_far (p := ⟨gb233, 2, none⟩) (Kd.V_far (p := ⟨gb233, 1, none⟩) (Kd.V_far (p := ⟨gb233, 0, none⟩) (Kd.V_mono HO_224000.out (fun k_ hk => (⟨hk, hk.2⟩ : _ ∧ k_ ≠ gb233))) (fun _ hk => hk.2) (.string ((rd_T44 l0_0 x17_1).f0))) (fun _ hk => hk.2) (.slice A232_1 ((rd_T44 l0_0 x17_1).f1).length c232_1)) (fun _ hk => hk.2) (.slice A232_2 ((rd_T44 l0_0 x17_1).f2).length c232_2)) (fun _ hk => hk.2) (.bool ((rd_T44 l0_0 x17_1).f3))) (fun _ hk => hk.2) (.bool ((rd_T44 l0_0 x17_1).f4))) (fun _ hk => ⟨hk.1.1.1, ⟨hk.1.1.2, hk.1.2⟩⟩)))⟩; have n2_ : Aside0 (Kd.V Kd.bool 4 w30 w.heap.size (fun k_ => ((P0_0_ k_ ∨ P0_1_ k_) ∨ w.heap.size ≤ k_) ∧ k_ ≠ gb223 ∧ k_ ≠ gb233) (.slice A0_1 l0_1.length c0_1) l0_1) := ⟨(by rw [hw]; exact (by (with_reducible repeat (first | apply Kd.V_alloc | apply Kd.V_drewN | apply Kd.V_drew)); exact Kd.V_mono (Kd.V_far (p := ⟨gb233, 4, none⟩) (Kd.V_far (p := ⟨gb233, 3, none⟩) (Kd.V_far (p := ⟨gb233, 2, none⟩) (Kd.V_far (p := ⟨gb233, 1, none⟩) (Kd.V_far (p := ⟨gb233, 0, none⟩) (Kd.V_mono HO_224001.out (fun k_ hk => (⟨hk, hk.2⟩ : _ ∧ k_ ≠ gb233))) (fun _ hk => hk.2) (.string ((rd_T44 l0_0 x17_1).f0))) (fun _ hk => hk.2) (.slice A232_1 ((rd_T44 l0_0 x17_1).f1).length c232_1)) (fun _ hk => hk.2) (.slice A232_2 ((rd_T44 l0_0 x17_1).f2).length c232_2)) (fun _ hk => hk.2) (.bool ((rd_T44 l0_0 x17_1).f3))) (fun _ hk => hk.2) (.bool ((rd_T44 l0_0 x17_1).f4))) (fun _ hk => ⟨hk.1.1.1, ⟨hk.1.1.2, hk.1.2⟩⟩)))⟩; have n3_ : Aside0 (Kd.V Kd.string 9 w30 w.heap.size (fun k_ => ((P0_0_ k_ ∨ P0_1_ k_) ∨ w.heap.size ≤ k_) ∧ k_ ≠ gb223 ∧ k_ ≠ gb233) (.slice A232_1 ((rd_T44 l0_0 x17_1).f1).length c232_1) ((rd_T44 l0_0 x17_1).f1)) := ⟨(by rw [hw]; exact (by (with_reducible repeat (first | apply Kd.V_alloc | apply Kd.V_drewN | apply Kd.V_drew)); exact Kd.V_mono (Kd.V_far (p := ⟨gb233, 4, none⟩) (Kd.V_far (p := ⟨gb233, 3, none⟩) (Kd.V_far (p := ⟨gb233, 2, none⟩) (Kd.V_far (p := ⟨gb233, 1, none⟩) (Kd.V_far (p := ⟨gb233, 0, none⟩) (Kd.V_mono HL232_1.out (fun k_ hk => (⟨hk, hk.2⟩ : _ ∧ k_ ≠ gb233))) (fun _ hk => hk.2) (.string ((rd_T44 l0_0 x17_1).f0))) (fun _ hk => hk.2) (.slice A232_1 ((rd_T44 l0_0 x17_1).f1).length c232_1)) (fun _ hk => hk.2) (.slice A232_2 ((rd_T44 l0_0 x17_1).f2).length c232_2)) (fun _ hk => hk.2) (.bool ((rd_T44 l0_0 x17_1).f3))) (fun _ hk => hk.2) (.bool ((rd_T44 l0_0 x17_1).f4))) (fun _ hk => ⟨hk.1.1.1, ⟨hk.1.1.2, hk.1.2⟩⟩)))⟩; have n4_ : Aside0 (Kd.V Kd.string 9 w30 w.heap.size (fun k_ => ((P0_0_ k_ ∨ P0_1_ k_) ∨ w.heap.size ≤ k_) ∧ k_ ≠ gb223 ∧ k_ ≠ gb233) (.slice A232_2 ((rd_T44 l0_0 x17_1).f2).length c232_2) ((rd_T44 l0_0 x17_1).f2)) := ⟨(by rw [hw]; exact (by (with_reducible repeat (first | apply Kd.V_alloc | apply Kd.V_drewN | apply Kd.V_drew)); exact Kd.V_mono (Kd.V_far (p := ⟨gb233, 4, none⟩) (Kd.V_far (p := ⟨gb233, 3, none⟩) (Kd.V_far (p := ⟨gb233, 2, none⟩) (Kd.V_far (p := ⟨gb233, 1, none⟩) (Kd.V_far (p := ⟨gb233, 0, none⟩) (Kd.V_mono HL232_2.out (fun k_ hk => (⟨hk, hk.2⟩ : _ ∧ k_ ≠ gb233))) (fun _ hk => hk.2) (.string ((rd_T44 l0_0 x17_1).f0))) (fun _ hk => hk.2) (.slice A232_1 ((rd_T44 l0_0 x17_1).f1).length c232_1)) (fun _ hk => hk.2) (.slice A232_2 ((rd_T44 l0_0 x17_1).f2).length c232_2)) (fun _ hk => hk.2) (.bool ((rd_T44 l0_0 x17_1).f3))) (fun _ hk => hk.2) (.bool ((rd_T44 l0_0 x17_1).f4))) (fun _ hk => ⟨hk.1.1.1, ⟨hk.1.1.2, hk.1.2⟩⟩)))⟩; have n5_ : Aside0 (w30.heap[gb223]? = some (.cells #[.slice (some ad232) l0_0.length c0_0, .slice A0_1 l0_1.length c0_1] 25 (0, 0))) := ⟨(by rw [hw]; exact (by (with_reducible repeat (first | refine blk_drewN ?_ _ | refine blk_drew ?_ | refine blk_alloc ?_ _)); refine blk_far ?_ NB223_233.out _; (with_reducible repeat (first | refine blk_drewN ?_ _ | refine blk_drew ?_ | refine blk_alloc ?_ _)); refine blk_far ?_ NB223_233.out _; (with_reducible repeat (first | refine blk_drewN ?_ _ | refine blk_drew ?_ | refine blk_alloc ?_ _)); refine blk_far ?_ NB223_233.out _; (with_reducible repeat (first | refine blk_drewN ?_ _ | refine blk_drew ?_ | refine blk_alloc ?_ _)); refine blk_far ?_ NB223_233.out _; (with_reducible repeat (first | refine blk_drewN ?_ _ | refine blk_drew ?_ | refine blk_alloc ?_ _)); refine blk_far ?_ NB223_233.out _; (with_reducible repeat (first | refine blk_drewN ?_ _ | refine blk_drew ?_ | refine blk_alloc ?_ _)); exact BK223.out))⟩; have n6_ : Aside0 (w30.heap[gb233]? = some (.cells #[.string ((rd_T44 l0_0 x17_1).f0), .slice A232_1 ((rd_T44 l0_0 x17_1).f1).length c232_1, .slice A232_2 ((rd_T44 l0_0 x17_1).f2).length c232_2, .bool ((rd_T44 l0_0 x17_1).f3), .bool ((rd_T44 l0_0 x17_1).f4)] 44 (0, 0))) := ⟨(by rw [hw]; exact (by (with_reducible repeat (first | refine blk_drewN ?_ _ | refine blk_drew ?_ | refine blk_alloc ?_ _)); refine blk_put (cs := #[.string ((rd_T44 l0_0 x17_1).f0), .slice A232_1 ((rd_T44 l0_0 x17_1).f1).length c232_1, .slice A232_2 ((rd_T44 l0_0 x17_1).f2).length c232_2, .bool ((rd_T44 l0_0 x17_1).f3), .bool false]) ?_ 4 _ rfl; (with_reducible repeat (first | refine blk_drewN ?_ _ | refine blk_drew ?_ | refine blk_alloc ?_ _)); refine blk_put (cs := #[.string ((rd_T44 l0_0 x17_1).f0), .slice A232_1 ((rd_T44 l0_0 x17_1).f1).length c232_1, .slice A232_2 ((rd_T44 l0_0 x17_1).f2).length c232_2, .bool false, .bool false]) ?_ 3 _ rfl; (with_reducible repeat (first | refine blk_drewN ?_ _ | refine blk_drew ?_ | refine blk_alloc ?_ _)); refine blk_put (cs := #[.string ((rd_T44 l0_0 x17_1).f0), .slice A232_1 ((rd_T44 l0_0 x17_1).f1).length c232_1, .slice none 0 0, .bool false, .bool false]) ?_ 2 _ rfl; (with_reducible repeat (first | refine blk_drewN ?_ _ | refine blk_drew ?_ | refine blk_alloc ?_ _)); refine blk_put (cs := #[.string ((rd_T44 l0_0 x17_1).f0), .slice none 0 0, .slice none 0 0, .bool false, .bool false]) ?_ 1 _ rfl; (with_reducible repeat (first | refine blk_drewN ?_ _ | refine blk_drew ?_ | refine blk_alloc ?_ _)); refine blk_put (cs := #[.string (⟨#[]⟩ : ByteArray), .slice none 0 0, .slice none 0 0, .bool false, .bool false]) ?_ 0 _ rfl; (with_reducible repeat (first | refine blk_drewN ?_ _ | refine blk_drew ?_ | refine blk_alloc ?_ _)); exact BK233.out))⟩; have n7_ : Aside0 (Below w.heap.size w w30) := ⟨(by rw [hw]; exact (by repeat (first | (with_reducible first | exact HB.out | apply below_alloc | apply pw_below_drewN | apply below_drew1 | refine below_set ?_ GE223.out | refine below_set ?_ GE233.out) | exact HB.out)))⟩; clear hw; clear HO_15; clear HO_224000; clear HO_224001; clear HL232_1; clear HL232_2; clear BK223; clear BK233; clear HB; have HO_15 := n0_; have HO_224000 := n1_; have HO_224001 := n2_; have HL232_1 := n3_; have HL232_2 := n4_; have BK223 := n5_; have BK233 := n6_; have HB := n7_; clear n0_ n1_ n2_ n3_ n4_ n5_ n6_ n7_; have hcz31_0 : w30.cell? ⟨gb233, 0, none⟩ = some (.string ((rd_T44 l0_0 x17_1).f0)) := (blk_cell BK233.out 0).trans rfl; have hcz31_1 : w30.cell? ⟨gb233, 1, none⟩ = some (.slice A232_1 ((rd_T44 l0_0 x17_1).f1).length c232_1) := (blk_cell BK233.out 1).trans rfl; have hcz31_2 : w30.cell? ⟨gb233, 2, none⟩ = some (.slice A232_2 ((rd_T44 l0_0 x17_1).f2).length c232_2) := (blk_cell BK233.out 2).trans rfl; have hcz31_3 : w30.cell? ⟨gb233, 3, none⟩ = some (.bool ((rd_T44 l0_0 x17_1).f3)) := (blk_cell BK233.out 3).trans rfl; have hcz31_4 : w30.cell? ⟨gb233, 4, none⟩ = some (.bool ((rd_T44 l0_0 x17_1).f4)) := (blk_cell BK233.out 4).trans rfl; have hfz31_0 := blk_frozen BK233.out 0; have hfz31_1 := blk_frozen BK233.out 1; have hfz31_2 := blk_frozen BK233.out 2; have hfz31_3 := blk_frozen BK233.out 3; have hfz31_4 := blk_frozen BK233.out 4) | ((with_reducible refine gate_dst (N := 23) rfl ?_); (try (refine gate_guard (by rfl) ?_; dsimp only)); refine Kd.N_lit k44 _ 44 ?hg (N' := 23) ?hd (xs := ([(⟨(rd_T44 l0_0 x17_1).f0, (rd_T44 l0_0 x17_1).f1, (rd_T44 l0_0 x17_1).f2, (rd_T44 l0_0 x17_1).f3, (rd_T44 l0_0 x17_1).f4⟩ : S44)] : List (S44))) (inner := [.string ((rd_T44 l0_0 x17_1).f0), .slice A232_1 ((rd_T44 l0_0 x17_1).f1).length c232_1, .slice A232_2 ((rd_T44 l0_0 x17_1).f2).length c232_2, .bool ((rd_T44 l0_0 x17_1).f3), .bool ((rd_T44 l0_0 x17_1).f4)]) (ok := (fun k_ => ((P0_0_ k_ ∨ P0_1_ k_) ∨ w.heap.size ≤ k_) ∧ k_ ≠ gb223 ∧ k_ ≠ gb233)) (okp := (fun k_ => ((P0_0_ k_ ∨ P0_1_ k_) ∨ w.heap.size ≤ k_) ∧ k_ ≠ gb223 ∧ k_ ≠ gb233)) ?hr ?hp (fun _ hk => hk) ((show ∀ k_, w30.heap.size ≤ k_ → (fun k_ => ((P0_0_ k_ ∨ P0_1_ k_) ∨ w.heap.size ≤ k_) ∧ k_ ≠ gb223 ∧ k_ ≠ gb233) k_ from fun k_ hk => ⟨(.inr (Nat.le_trans (below_size (by repeat (first | (with_reducible first | exact HB.out | apply below_alloc | apply pw_below_drewN | apply below_drew1 | refine below_set ?_ GE223.out | refine below_set ?_ GE233.out) | exact HB.out))) hk)), Kd.freshB (g := gb223) (o := .cells #[.slice (some ad232) l0_0.length c0_0, .slice A0_1 l0_1.length c0_1] 25 (0, 0)) (by (with_reducible repeat (first | refine blk_drewN ?_ _ | refine blk_drew ?_ | refine blk_alloc ?_ _)); exact BK223.out) k_ hk, Kd.freshB (g := gb233) (o := .cells #[.string ((rd_T44 l0_0 x17_1).f0), .slice A232_1 ((rd_T44 l0_0 x17_1).f1).length c232_1, .slice A232_2 ((rd_T44 l0_0 x17_1).f2).length c232_2, .bool ((rd_T44 l0_0 x17_1).f3), .bool ((rd_T44 l0_0 x17_1).f4)] 44 (0, 0)) (by (with_reducible repeat (first | refine blk_drewN ?_ _ | refine blk_drew ?_ | refine blk_alloc ?_ _)); exact BK233.out) k_ hk⟩) _ (Nat.le_refl _)) (Below.refl _ _) (Nat.le_refl _) (by simp) ?_; (case hd => rfl); (case hg => rfl); (case hr => first | (go_simp; done) | (go_simp; rfl)); (case hp => exact (Reps.c5 (show Kd.FK k44 _ _ (⟨(rd_T44 l0_0 x17_1).f0, (rd_T44 l0_0 x17_1).f1, (rd_T44 l0_0 x17_1).f2, (rd_T44 l0_0 x17_1).f3, (rd_T44 l0_0 x17_1).f4⟩ : S44) [.string ((rd_T44 l0_0 x17_1).f0), .slice A232_1 ((rd_T44 l0_0 x17_1).f1).length c232_1, .slice A232_2 ((rd_T44 l0_0 x17_1).f2).length c232_2, .bool ((rd_T44 l0_0 x17_1).f3), .bool ((rd_T44 l0_0 x17_1).f4)] from (k44_mkF _ _ (⟨(rd_T44 l0_0 x17_1).f0, (rd_T44 l0_0 x17_1).f1, (rd_T44 l0_0 x17_1).f2, (rd_T44 l0_0 x17_1).f3, (rd_T44 l0_0 x17_1).f4⟩ : S44) (Kd.V_reads' (Kd.V_mono (ok' := (fun k_ => ((P0_0_ k_ ∨ P0_1_ k_) ∨ w.heap.size ≤ k_) ∧ k_ ≠ gb223 ∧ k_ ≠ gb233)) (HL232_1.out) (fun k_ hk => ⟨hk.1, ⟨hk.2.1, hk.2.2⟩⟩))).2.1 (Kd.V_F (Kd.V_mono (ok' := (fun k_ => ((P0_0_ k_ ∨ P0_1_ k_) ∨ w.heap.size ≤ k_) ∧ k_ ≠ gb223 ∧ k_ ≠ gb233)) (HL232_1.out) (fun k_ hk => ⟨hk.1, ⟨hk.2.1, hk.2.2⟩⟩))) (Kd.V_reads' (Kd.V_mono (ok' := (fun k_ => ((P0_0_ k_ ∨ P0_1_ k_) ∨ w.heap.size ≤ k_) ∧ k_ ≠ gb223 ∧ k_ ≠ gb233)) (HL232_2.out) (fun k_ hk => ⟨hk.1, ⟨hk.2.1, hk.2.2⟩⟩))).2.1 (Kd.V_F (Kd.V_mono (ok' := (fun k_ => ((P0_0_ k_ ∨ P0_1_ k_) ∨ w.heap.size ≤ k_) ∧ k_ ≠ gb223 ∧ k_ ≠ gb233)) (HL232_2.out) (fun k_ hk => ⟨hk.1, ⟨hk.2.1, hk.2.2⟩⟩))))) (Reps.none _ _))); intro v235 w32 ho33 hb hg_ hnew_; clear hg_ hnew_; (first | rw [← Ny234.out] at ho33 | (simp only [Int.reduceToNat] at ho33; rw [← Ny234.out] at ho33)); have n0_ := Aside0.mk (Kd.V_elder' (by (with_reducible repeat (first | apply Kd.V_alloc | apply Kd.V_drewN | apply Kd.V_drew)); exact HO_15.out) (by first | exact Kd.N_base ho33 | exact Kd.S_base ho33) hb); have n1_ := Aside0.mk (Kd.V_elder' (by (with_reducible repeat (first | apply Kd.V_alloc | apply Kd.V_drewN | apply Kd.V_drew)); exact HO_224000.out) (by first | exact Kd.N_base ho33 | exact Kd.S_base ho33) hb); have n2_ := Aside0.mk (Kd.V_elder' (by (with_reducible repeat (first | apply Kd.V_alloc | apply Kd.V_drewN | apply Kd.V_drew)); exact HO_224001.out) (by first | exact Kd.N_base ho33 | exact Kd.S_base ho33) hb); have n3_ := Aside0.mk (Kd.V_elder' (by (with_reducible repeat (first | apply Kd.V_alloc | apply Kd.V_drewN | apply Kd.V_drew)); exact HL232_1.out) (by first | exact Kd.N_base ho33 | exact Kd.S_base ho33) hb); have n4_ := Aside0.mk (Kd.V_elder' (by (with_reducible repeat (first | apply Kd.V_alloc | apply Kd.V_drewN | apply Kd.V_drew)); exact HL232_2.out) (by first | exact Kd.N_base ho33 | exact Kd.S_base ho33) hb); have n5_ := Aside0.mk (Kd.N_lower ho33 (below_size (by repeat (first | (with_reducible first | exact HB.out | apply below_alloc | apply pw_below_drewN | apply below_drew1 | refine below_set ?_ GE223.out | refine below_set ?_ GE233.out) | exact HB.out)))); have n6_ := Aside0.mk (blk_below (g := gb223) (o := .cells #[.slice (some ad232) l0_0.length c0_0, .slice A0_1 l0_1.length c0_1] 25 (0, 0)) (by (with_reducible repeat (first | refine blk_drewN ?_ _ | refine blk_drew ?_ | refine blk_alloc ?_ _)); exact BK223.out) hb); have n7_ := Aside0.mk trivial; have n8_ := Aside0.mk trivial; have n9_ := Aside0.mk (blk_below (g := gb233) (o := .cells #[.string ((rd_T44 l0_0 x17_1).f0), .slice A232_1 ((rd_T44 l0_0 x17_1).f1).length c232_1, .slice A232_2 ((rd_T44 l0_0 x17_1).f2).length c232_2, .bool ((rd_T44 l0_0 x17_1).f3), .bool ((rd_T44 l0_0 x17_1).f4)] 44 (0, 0)) (by (with_reducible repeat (first | refine blk_drewN ?_ _ | refine blk_drew ?_ | refine blk_alloc ?_ _)); exact BK233.out) hb); have n10_ := Aside0.mk (below_step (by repeat (first | (with_reducible first | exact HB.out | apply below_alloc | apply pw_below_drewN | apply below_drew1 | refine below_set ?_ GE223.out | refine below_set ?_ GE233.out) | exact HB.out)) hb); clear HO_15; clear HO_224000; clear HO_224001; clear HL232_1; clear HL232_2; clear BK223; clear HR232_1; clear HR232_2; clear BK233; clear HB; have HO_15 := n0_; have HO_224000 := n1_; have HO_224001 := n2_; have HL232_1 := n3_; have HL232_2 := n4_; have HO236 := n5_; have BK223 := n6_; have HR232_1 := n7_; have HR232_2 := n8_; have BK233 := n9_; have HB := n10_; clear n0_ n1_ n2_ n3_ n4_ n5_ n6_ n7_ n8_ n9_ n10_; clear hb ho33; obtain ⟨Ao34, co34, eo34⟩ := Kd.N_slice HO236.out; subst eo34) | ((with_reducible refine gate_callee (f := 14) rfl ?_); refine goesL_ (some 25) rfl rfl Tryd.func14 (by kernel_rfl) rfl #[.agg #[.slice Ao34 y234.length co34, .slice none 0 0]] rfl (by (try simp only [List.map_toArray, List.map_cons, List.map_nil]); first | done | rfl | (simp only [List.length_drop, List.length_take]; rfl)) ?_; (refine (selector_Weight.calls k1 _ _ y234 _ _ ([] : List Bool) t237 _ ?side1 ?side2 ?side3 ?side4 A26.out).mono ?_); (case side1 => repeat (first | exact (Kd.N_reads' HO236.out).2.2 | (with_reducible refine Kd.C_alloc ?_ _) | (with_reducible refine Kd.C_drewN ?_ _) | (with_reducible refine Kd.C_drew ?_))); (case side2 => exact (Kd.N_reads' HO236.out).2.1); (case side3 => exact Kd.C_nil _ _); (case side4 => exact Nat.le_refl _); rintro e w35 ⟨rfl, hb⟩; refine ⟨_, rfl, ?_⟩; have n0_ := Aside0.mk (Kd.V_below (by (with_reducible repeat (first | apply Kd.V_alloc | apply Kd.V_drewN | apply Kd.V_drew)); exact HO_15.out) hb); have n1_ := Aside0.mk (Kd.V_below (by (with_reducible repeat (first | apply Kd.V_alloc | apply Kd.V_drewN | apply Kd.V_drew)); exact HO_224000.out) hb); have n2_ := Aside0.mk (Kd.V_below (by (with_reducible repeat (first | apply Kd.V_alloc | apply Kd.V_drewN | apply Kd.V_drew)); exact HO_224001.out) hb); have n3_ := Aside0.mk (Kd.V_below (by (with_reducible repeat (first | apply Kd.V_alloc | apply Kd.V_drewN | apply Kd.V_drew)); exact HL232_1.out) hb); have n4_ := Aside0.mk (Kd.V_below (by (with_reducible repeat (first | apply Kd.V_alloc | apply Kd.V_drewN | apply Kd.V_drew)); exact HL232_2.out) hb); have n5_ := Aside0.mk (Kd.N_below (by (with_reducible repeat (first | apply Kd.N_alloc | apply Kd.N_drewN | apply Kd.N_drew)); exact HO236.out) hb); have n6_ := Aside0.mk (blk_below (g := gb223) (o := .cells #[.slice (some ad232) l0_0.length c0_0, .slice A0_1 l0_1.length c0_1] 25 (0, 0)) (by (with_reducible repeat (first | refine blk_drewN ?_ _ | refine blk_drew ?_ | refine blk_alloc ?_ _)); exact BK223.out) hb); have n7_ := Aside0.mk trivial; have n8_ := Aside0.mk trivial; have n9_ := Aside0.mk (blk_below (g := gb233) (o := .cells #[.string ((rd_T44 l0_0 x17_1).f0), .slice A232_1 ((rd_T44 l0_0 x17_1).f1).length c232_1, .slice A232_2 ((rd_T44 l0_0 x17_1).f2).length c232_2, .bool ((rd_T44 l0_0 x17_1).f3), .bool ((rd_T44 l0_0 x17_1).f4)] 44 (0, 0)) (by (with_reducible repeat (first | refine blk_drewN ?_ _ | refine blk_drew ?_ | refine blk_alloc ?_ _)); exact BK233.out) hb); have n10_ := Aside0.mk (below_step (by repeat (first | (with_reducible first | exact HB.out | apply below_alloc | apply pw_below_drewN | apply below_drew1 | refine below_set ?_ GE223.out | refine below_set ?_ GE233.out) | exact HB.out)) hb); clear HO_15; clear HO_224000; clear HO_224001; clear HL232_1; clear HL232_2; clear HO236; clear BK223; clear HR232_1; clear HR232_2; clear BK233; clear HB; have HO_15 := n0_; have HO_224000 := n1_; have HO_224001 := n2_; have HL232_1 := n3_; have HL232_2 := n4_; have HO236 := n5_; have BK223 := n6_; have HR232_1 := n7_; have HR232_2 := n8_; have BK233 := n9_; have HB := n10_; clear n0_ n1_ n2_ n3_ n4_ n5_ n6_ n7_ n8_ n9_ n10_; (try clear hb); (try clear hb2); (try clear hk); (try clear hi)))
                go_roundg k1
                case measure => have := HK1.out; omega
                case rel => exact ⟨(wrap64 (x5_1 + t237)), (wrap64 (x17_1 + 1)), (by first | rfl | (simp; done) | (simp [*]; done)), (by first | rfl | (simp; done) | (simp [*]; done)), H', ⟨by have := HK1.out; omega⟩, ⟨by (with_reducible repeat (first | apply Kd.V_alloc | apply Kd.V_drewN | apply Kd.V_drew)); exact Kd.V_mono HO_15.out (fun _ hk => ⟨hk.1.1, hk.1.2.1⟩)⟩, ⟨by (with_reducible repeat (first | apply Kd.V_alloc | apply Kd.V_drewN | apply Kd.V_drew)); exact Kd.V_mono HO_224000.out (fun _ hk => ⟨hk.1.1, hk.1.2.1⟩)⟩, ⟨by (with_reducible repeat (first | apply Kd.V_alloc | apply Kd.V_drewN | apply Kd.V_drew)); exact Kd.V_mono HO_224001.out (fun _ hk => ⟨hk.1.1, hk.1.2.1⟩)⟩, ⟨by (with_reducible repeat (first | refine blk_drewN ?_ _ | refine blk_drew ?_ | refine blk_alloc ?_ _)); exact BK223.out⟩, ⟨by repeat (first | (with_reducible first | exact HB.out | apply below_alloc | apply pw_below_drewN | apply below_drew1 | refine below_set ?_ GE223.out | refine below_set ?_ GE233.out) | exact HB.out)⟩⟩
              · rw [if_neg c25] at H
                exact absurd H (by simp)
            · rw [if_neg c24] at H
              exact absurd H (by simp)
          · rw [if_neg c23] at H
            have c23b0 : decide (x17_1 < (l0_0.length : Int)) = false := decide_eq_false c23
            clear c23
            replace H := Option.bind_eq_some_iff.mp H
            obtain ⟨t238, A360, H⟩ := H
            replace H : (if x5_1 = t238 then (if a1 < 0 then (some true) else (if a1 ≥ (l0_0.length : Int) then (some true) else ((some (([] : List (S44)) : List (S44))).bind fun y239 => (if y239.length + l0_0.length < 1954687338268 then ((some (y239 ++ l0_0 : List (S44))).bind fun y242 => ((some (([] : List ByteArray) : List ByteArray)).bind fun y246 => (if 0 ≤ a1 then (if a1 < (y242.length : Int) then (if y246.length + ((rd_T44 y242 a1).f1).length < 8796093022208 then (if (y246 ++ ((rd_T44 y242 a1).f1)).length + (([(⟨#[109, 111, 114, 101]⟩ : ByteArray)] : List ByteArray)).length < 8796093022208 then ((selector_Weight.f k1 (y242.set (a1 : Int).toNat (⟨(rd_T44 y242 a1).f0, (y246 ++ ((rd_T44 y242 a1).f1)) ++ ([(⟨#[109, 111, 114, 101]⟩ : ByteArray)] : List ByteArray), (rd_T44 y242 a1).f2, (rd_T44 y242 a1).f3, (rd_T44 y242 a1).f4⟩ : S44)) l0_1).bind fun t260 => (some (t260 == (wrap64 (x5_1 + 10000))))) else (none)) else (none)) else (none)) else (none)))) else (none))))) else (some false)) = some r := H
            have A36 := Aside0.mk A360
            clear A360
            by_cases c37 : x5_1 = t238
            · rw [if_pos c37] at H
              have c37b0 : (x5_1 == t238) = true := beq_iff_eq.mpr c37
              have c37b1 : (x5_1 != t238) = false := bne_eq_false_iff_eq.mpr c37
              clear c37
              by_cases c38 : a1 < 0
              · rw [if_pos c38] at H
                have c38b0 : decide (a1 < 0) = true := decide_eq_true c38
                clear c38
                obtain rfl := Option.some.inj H; clear hrt; try clear H
                have hcz39_0 : wr.cell? ⟨gb223, 0, none⟩ = some (.slice A0_0 l0_0.length c0_0) := (blk_cell BK223.out 0).trans rfl
                have hcz39_1 : wr.cell? ⟨gb223, 1, none⟩ = some (.slice A0_1 l0_1.length c0_1) := (blk_cell BK223.out 1).trans rfl
                have hfz39_0 := blk_frozen BK223.out 0
                have hfz39_1 := blk_frozen BK223.out 1
                go_wp2_with (first | ((with_reducible refine gate_callee (f := 14) rfl ?_); refine goesL_ (some 30) rfl rfl Tryd.func14 (by kernel_rfl) rfl #[.agg #[.slice A0_0 l0_0.length c0_0, .slice A0_1 l0_1.length c0_1]] rfl (by (try simp only [List.map_toArray, List.map_cons, List.map_nil]); first | done | rfl | (simp only [List.length_drop, List.length_take]; rfl)) ?_; (with_reducible refine (selector_Weight.calls k1 _ _ l0_0 _ _ l0_1 t238 _ ?side1 ?side2 ?side3 ?side4 A36.out).mono ?_); (case side1 => repeat (first | exact (Kd.V_reads' HO_224000.out).2.2 | (with_reducible refine Kd.C_alloc ?_ _) | (with_reducible refine Kd.C_drewN ?_ _) | (with_reducible refine Kd.C_drew ?_))); (case side2 => exact (Kd.V_reads' HO_224000.out).2.1); (case side3 => repeat (first | exact (Kd.V_reads' HO_224001.out).2.2 | (with_reducible refine Kd.C_alloc ?_ _) | (with_reducible refine Kd.C_drewN ?_ _) | (with_reducible refine Kd.C_drew ?_))); (case side4 => exact (Kd.V_reads' HO_224001.out).2.1); rintro e w40 ⟨rfl, hb⟩; refine ⟨_, rfl, ?_⟩; have n0_ := Aside0.mk (Kd.V_below (by (with_reducible repeat (first | apply Kd.V_alloc | apply Kd.V_drewN | apply Kd.V_drew)); exact HO_15.out) hb); have n1_ := Aside0.mk (Kd.V_below (by (with_reducible repeat (first | apply Kd.V_alloc | apply Kd.V_drewN | apply Kd.V_drew)); exact HO_224000.out) hb); have n2_ := Aside0.mk (Kd.V_below (by (with_reducible repeat (first | apply Kd.V_alloc | apply Kd.V_drewN | apply Kd.V_drew)); exact HO_224001.out) hb); have n3_ := Aside0.mk (blk_below (g := gb223) (o := .cells #[.slice A0_0 l0_0.length c0_0, .slice A0_1 l0_1.length c0_1] 25 (0, 0)) (by (with_reducible repeat (first | refine blk_drewN ?_ _ | refine blk_drew ?_ | refine blk_alloc ?_ _)); exact BK223.out) hb); have n4_ := Aside0.mk (below_step (by repeat (first | (with_reducible first | exact HB.out | apply below_alloc | apply pw_below_drewN | apply below_drew1 | refine below_set ?_ GE223.out) | exact HB.out)) hb); clear HO_15; clear HO_224000; clear HO_224001; clear BK223; clear HB; have HO_15 := n0_; have HO_224000 := n1_; have HO_224001 := n2_; have BK223 := n3_; have HB := n4_; clear n0_ n1_ n2_ n3_ n4_; (try clear hb); (try clear hb2); (try clear hk); (try clear hi)))
                go_ret
                exact ⟨by first | rfl | (simp [errW_none, errW_some] <;> rfl) | (simp [*, errW_none, errW_some] <;> rfl), by repeat (first | (with_reducible first | exact HB.out | apply below_alloc | apply pw_below_drewN | apply below_drew1 | refine below_set ?_ GE223.out) | exact HB.out)⟩
              · rw [if_neg c38] at H
                have c38b0 : decide (a1 < 0) = false := decide_eq_false c38
                clear c38
                by_cases c41 : a1 ≥ (l0_0.length : Int)
                · rw [if_pos c41] at H
                  have c41b0 : decide ((l0_0.length : Int) ≤ a1) = true := decide_eq_true c41
                  clear c41
                  obtain rfl := Option.some.inj H; clear hrt; try clear H
                  have hcz42_0 : wr.cell? ⟨gb223, 0, none⟩ = some (.slice A0_0 l0_0.length c0_0) := (blk_cell BK223.out 0).trans rfl
                  have hcz42_1 : wr.cell? ⟨gb223, 1, none⟩ = some (.slice A0_1 l0_1.length c0_1) := (blk_cell BK223.out 1).trans rfl
                  have hfz42_0 := blk_frozen BK223.out 0
                  have hfz42_1 := blk_frozen BK223.out 1
                  go_wp2_with (first | ((with_reducible refine gate_callee (f := 14) rfl ?_); refine goesL_ (some 30) rfl rfl Tryd.func14 (by kernel_rfl) rfl #[.agg #[.slice A0_0 l0_0.length c0_0, .slice A0_1 l0_1.length c0_1]] rfl (by (try simp only [List.map_toArray, List.map_cons, List.map_nil]); first | done | rfl | (simp only [List.length_drop, List.length_take]; rfl)) ?_; (with_reducible refine (selector_Weight.calls k1 _ _ l0_0 _ _ l0_1 t238 _ ?side1 ?side2 ?side3 ?side4 A36.out).mono ?_); (case side1 => repeat (first | exact (Kd.V_reads' HO_224000.out).2.2 | (with_reducible refine Kd.C_alloc ?_ _) | (with_reducible refine Kd.C_drewN ?_ _) | (with_reducible refine Kd.C_drew ?_))); (case side2 => exact (Kd.V_reads' HO_224000.out).2.1); (case side3 => repeat (first | exact (Kd.V_reads' HO_224001.out).2.2 | (with_reducible refine Kd.C_alloc ?_ _) | (with_reducible refine Kd.C_drewN ?_ _) | (with_reducible refine Kd.C_drew ?_))); (case side4 => exact (Kd.V_reads' HO_224001.out).2.1); rintro e w43 ⟨rfl, hb⟩; refine ⟨_, rfl, ?_⟩; have n0_ := Aside0.mk (Kd.V_below (by (with_reducible repeat (first | apply Kd.V_alloc | apply Kd.V_drewN | apply Kd.V_drew)); exact HO_15.out) hb); have n1_ := Aside0.mk (Kd.V_below (by (with_reducible repeat (first | apply Kd.V_alloc | apply Kd.V_drewN | apply Kd.V_drew)); exact HO_224000.out) hb); have n2_ := Aside0.mk (Kd.V_below (by (with_reducible repeat (first | apply Kd.V_alloc | apply Kd.V_drewN | apply Kd.V_drew)); exact HO_224001.out) hb); have n3_ := Aside0.mk (blk_below (g := gb223) (o := .cells #[.slice A0_0 l0_0.length c0_0, .slice A0_1 l0_1.length c0_1] 25 (0, 0)) (by (with_reducible repeat (first | refine blk_drewN ?_ _ | refine blk_drew ?_ | refine blk_alloc ?_ _)); exact BK223.out) hb); have n4_ := Aside0.mk (below_step (by repeat (first | (with_reducible first | exact HB.out | apply below_alloc | apply pw_below_drewN | apply below_drew1 | refine below_set ?_ GE223.out) | exact HB.out)) hb); clear HO_15; clear HO_224000; clear HO_224001; clear BK223; clear HB; have HO_15 := n0_; have HO_224000 := n1_; have HO_224001 := n2_; have BK223 := n3_; have HB := n4_; clear n0_ n1_ n2_ n3_ n4_; (try clear hb); (try clear hb2); (try clear hk); (try clear hi); have hcz44_0 : w43.cell? ⟨gb223, 0, none⟩ = some (.slice A0_0 l0_0.length c0_0) := (blk_cell BK223.out 0).trans rfl; have hcz44_1 : w43.cell? ⟨gb223, 1, none⟩ = some (.slice A0_1 l0_1.length c0_1) := (blk_cell BK223.out 1).trans rfl; have hfz44_0 := blk_frozen BK223.out 0; have hfz44_1 := blk_frozen BK223.out 1))
                  go_ret
                  exact ⟨by first | rfl | (simp [errW_none, errW_some] <;> rfl) | (simp [*, errW_none, errW_some] <;> rfl), by repeat (first | (with_reducible first | exact HB.out | apply below_alloc | apply pw_below_drewN | apply below_drew1 | refine below_set ?_ GE223.out) | exact HB.out)⟩
                · rw [if_neg c41] at H
                  have c41b0 : decide ((l0_0.length : Int) ≤ a1) = false := decide_eq_false c41
                  clear c41
                  obtain ⟨y239, hy239⟩ : ∃ y_ : List (S44), y_ = (([] : List (S44))) := ⟨_, rfl⟩
                  replace H : (if y239.length + l0_0.length < 1954687338268 then ((some (y239 ++ l0_0 : List (S44))).bind fun y242 => ((some (([] : List ByteArray) : List ByteArray)).bind fun y246 => (if 0 ≤ a1 then (if a1 < (y242.length : Int) then (if y246.length + ((rd_T44 y242 a1).f1).length < 8796093022208 then (if (y246 ++ ((rd_T44 y242 a1).f1)).length + (([(⟨#[109, 111, 114, 101]⟩ : ByteArray)] : List ByteArray)).length < 8796093022208 then ((selector_Weight.f k1 (y242.set (a1 : Int).toNat (⟨(rd_T44 y242 a1).f0, (y246 ++ ((rd_T44 y242 a1).f1)) ++ ([(⟨#[109, 111, 114, 101]⟩ : ByteArray)] : List ByteArray), (rd_T44 y242 a1).f2, (rd_T44 y242 a1).f3, (rd_T44 y242 a1).f4⟩ : S44)) l0_1).bind fun t260 => (some (t260 == (wrap64 (x5_1 + 10000))))) else (none)) else (none)) else (none)) else (none)))) else (none)) = some r := by first | (rw [hy239]; with_reducible exact H) | (have H2_ := (Option.bind_some _ _).symm.trans H; rw [hy239]; with_reducible exact H2_) | (have H2_ := (Option.bind_some _ _).symm.trans H; with_reducible exact H2_) | with_reducible exact H | (rw [hy239]; exact H) | exact H
                  have Ny239 := Aside0.mk hy239
                  clear hy239
                  by_cases c45 : y239.length + l0_0.length < 1954687338268
                  · rw [if_pos c45] at H
                    have LMc45 := Aside0.mk c45
                    clear c45
                    obtain ⟨y242, hy242⟩ : ∃ y_ : List (S44), y_ = (y239 ++ l0_0) := ⟨_, rfl⟩
                    replace H : ((some (([] : List ByteArray) : List ByteArray)).bind fun y246 => (if 0 ≤ a1 then (if a1 < (y242.length : Int) then (if y246.length + ((rd_T44 y242 a1).f1).length < 8796093022208 then (if (y246 ++ ((rd_T44 y242 a1).f1)).length + (([(⟨#[109, 111, 114, 101]⟩ : ByteArray)] : List ByteArray)).length < 8796093022208 then ((selector_Weight.f k1 (y242.set (a1 : Int).toNat (⟨(rd_T44 y242 a1).f0, (y246 ++ ((rd_T44 y242 a1).f1)) ++ ([(⟨#[109, 111, 114, 101]⟩ : ByteArray)] : List ByteArray), (rd_T44 y242 a1).f2, (rd_T44 y242 a1).f3, (rd_T44 y242 a1).f4⟩ : S44)) l0_1).bind fun t260 => (some (t260 == (wrap64 (x5_1 + 10000))))) else (none)) else (none)) else (none)) else (none))) = some r := by first | (rw [hy242]; with_reducible exact H) | (have H2_ := (Option.bind_some _ _).symm.trans H; rw [hy242]; with_reducible exact H2_) | (have H2_ := (Option.bind_some _ _).symm.trans H; with_reducible exact H2_) | with_reducible exact H | (rw [hy242]; exact H) | exact H
                    have Ny242 := Aside0.mk hy242
                    clear hy242
                    obtain ⟨y246, hy246⟩ : ∃ y_ : List ByteArray, y_ = (([] : List ByteArray)) := ⟨_, rfl⟩
                    replace H : (if 0 ≤ a1 then (if a1 < (y242.length : Int) then (if y246.length + ((rd_T44 y242 a1).f1).length < 8796093022208 then (if (y246 ++ ((rd_T44 y242 a1).f1)).length + (([(⟨#[109, 111, 114, 101]⟩ : ByteArray)] : List ByteArray)).length < 8796093022208 then ((selector_Weight.f k1 (y242.set (a1 : Int).toNat (⟨(rd_T44 y242 a1).f0, (y246 ++ ((rd_T44 y242 a1).f1)) ++ ([(⟨#[109, 111, 114, 101]⟩ : ByteArray)] : List ByteArray), (rd_T44 y242 a1).f2, (rd_T44 y242 a1).f3, (rd_T44 y242 a1).f4⟩ : S44)) l0_1).bind fun t260 => (some (t260 == (wrap64 (x5_1 + 10000))))) else (none)) else (none)) else (none)) else (none)) = some r := by first | (rw [hy246]; with_reducible exact H) | (have H2_ := (Option.bind_some _ _).symm.trans H; rw [hy246]; with_reducible exact H2_) | (have H2_ := (Option.bind_some _ _).symm.trans H; with_reducible exact H2_) | with_reducible exact H | (rw [hy246]; exact H) | exact H
                    have Ny246 := Aside0.mk hy246
                    clear hy246
                    by_cases c46 : 0 ≤ a1
                    · rw [if_pos c46] at H
                      have c46b0 : decide (0 ≤ a1) = true := decide_eq_true c46
                      clear c46
                      by_cases c47 : a1 < (y242.length : Int)
                      · rw [if_pos c47] at H
                        have c47b0 : decide (a1 < (y242.length : Int)) = true := decide_eq_true c47
                        clear c47
                        by_cases c48 : y246.length + ((rd_T44 y242 a1).f1).length < 8796093022208
                        · rw [if_pos c48] at H
                          have LMc48 := Aside0.mk c48
                          clear c48
                          obtain ⟨y250, hy250⟩ : ∃ y_ : List ByteArray, y_ = (y246 ++ ((rd_T44 y242 a1).f1)) := ⟨_, rfl⟩
                          replace H : (if y250.length + (([(⟨#[109, 111, 114, 101]⟩ : ByteArray)] : List ByteArray)).length < 8796093022208 then ((selector_Weight.f k1 (y242.set (a1 : Int).toNat (⟨(rd_T44 y242 a1).f0, (y246 ++ ((rd_T44 y242 a1).f1)) ++ ([(⟨#[109, 111, 114, 101]⟩ : ByteArray)] : List ByteArray), (rd_T44 y242 a1).f2, (rd_T44 y242 a1).f3, (rd_T44 y242 a1).f4⟩ : S44)) l0_1).bind fun t260 => (some (t260 == (wrap64 (x5_1 + 10000))))) else (none)) = some r := by first | (rw [hy250]; with_reducible exact H) | (have H2_ := (Option.bind_some _ _).symm.trans H; rw [hy250]; with_reducible exact H2_) | (have H2_ := (Option.bind_some _ _).symm.trans H; with_reducible exact H2_) | with_reducible exact H | (rw [hy250]; exact H) | exact H
                          have Ny250 := Aside0.mk hy250
                          clear hy250
                          obtain ⟨y253, hy253⟩ : ∃ y_ : List ByteArray, y_ = (([(⟨#[109, 111, 114, 101]⟩ : ByteArray)] : List ByteArray)) := ⟨_, rfl⟩
                          replace H : (if y250.length + y253.length < 8796093022208 then ((selector_Weight.f k1 (y242.set (a1 : Int).toNat (⟨(rd_T44 y242 a1).f0, (y246 ++ ((rd_T44 y242 a1).f1)) ++ ([(⟨#[109, 111, 114, 101]⟩ : ByteArray)] : List ByteArray), (rd_T44 y242 a1).f2, (rd_T44 y242 a1).f3, (rd_T44 y242 a1).f4⟩ : S44)) l0_1).bind fun t260 => (some (t260 == (wrap64 (x5_1 + 10000))))) else (none)) = some r := by first | (rw [hy253]; with_reducible exact H) | (have H2_ := (Option.bind_some _ _).symm.trans H; rw [hy253]; with_reducible exact H2_) | (have H2_ := (Option.bind_some _ _).symm.trans H; with_reducible exact H2_) | with_reducible exact H | (rw [hy253]; exact H) | exact H
                          have Ny253 := Aside0.mk hy253
                          clear hy253
                          by_cases c49 : y250.length + y253.length < 8796093022208
                          · rw [if_pos c49] at H
                            have LMc49 := Aside0.mk c49
                            clear c49
                            obtain ⟨y256, hy256⟩ : ∃ y_ : List ByteArray, y_ = (y250 ++ y253) := ⟨_, rfl⟩
                            replace H : ((selector_Weight.f k1 (y242.set (a1 : Int).toNat (⟨(rd_T44 y242 a1).f0, (y246 ++ ((rd_T44 y242 a1).f1)) ++ ([(⟨#[109, 111, 114, 101]⟩ : ByteArray)] : List ByteArray), (rd_T44 y242 a1).f2, (rd_T44 y242 a1).f3, (rd_T44 y242 a1).f4⟩ : S44)) l0_1).bind fun t260 => (some (t260 == (wrap64 (x5_1 + 10000))))) = some r := by first | (rw [hy256]; with_reducible exact H) | (have H2_ := (Option.bind_some _ _).symm.trans H; rw [hy256]; with_reducible exact H2_) | (have H2_ := (Option.bind_some _ _).symm.trans H; with_reducible exact H2_) | with_reducible exact H | (rw [hy256]; exact H) | exact H
                            have Ny256 := Aside0.mk hy256
                            clear hy256
                            obtain ⟨y259, hy259⟩ : ∃ y_ : List (S44), y_ = (y242.set (a1 : Int).toNat (⟨(rd_T44 y242 a1).f0, y256, (rd_T44 y242 a1).f2, (rd_T44 y242 a1).f3, (rd_T44 y242 a1).f4⟩ : S44)) := ⟨_, rfl⟩
                            replace H : ((selector_Weight.f k1 (y242.set (a1 : Int).toNat (⟨(rd_T44 y242 a1).f0, (y246 ++ ((rd_T44 y242 a1).f1)) ++ ([(⟨#[109, 111, 114, 101]⟩ : ByteArray)] : List ByteArray), (rd_T44 y242 a1).f2, (rd_T44 y242 a1).f3, (rd_T44 y242 a1).f4⟩ : S44)) l0_1).bind fun t260 => (some (t260 == (wrap64 (x5_1 + 10000))))) = some r := by first | (rw [hy259]; with_reducible exact H) | (have H2_ := (Option.bind_some _ _).symm.trans H; rw [hy259]; with_reducible exact H2_) | (have H2_ := (Option.bind_some _ _).symm.trans H; with_reducible exact H2_) | with_reducible exact H | (rw [hy259]; exact H) | exact H
                            have Ny259 := Aside0.mk hy259
                            clear hy259
                            replace H := Option.bind_eq_some_iff.mp H
                            obtain ⟨t260, A990, H⟩ := H
                            have A99 : Aside0 (selector_Weight.f k1 y259 l0_1 = some t260) := ⟨by rw [Ny259.out, Ny256.out, Ny250.out, Ny253.out]; exact A990⟩
                            clear A990
                            have HRT := Aside0.mk ((Option.some.inj H).trans hrt)
                            obtain rfl := hrt
                            clear H
                            have hcz51_0 : wr.cell? ⟨gb223, 0, none⟩ = some (.slice A0_0 l0_0.length c0_0) := (blk_cell BK223.out 0).trans rfl
                            have hcz51_1 : wr.cell? ⟨gb223, 1, none⟩ = some (.slice A0_1 l0_1.length c0_1) := (blk_cell BK223.out 1).trans rfl
                            have hfz51_0 := blk_frozen BK223.out 0
                            have hfz51_1 := blk_frozen BK223.out 1
                            try go_wp2_with (first | ((with_reducible refine gate_callee (f := 14) rfl ?_); refine goesL_ (some 30) rfl rfl Tryd.func14 (by kernel_rfl) rfl #[.agg #[.slice A0_0 l0_0.length c0_0, .slice A0_1 l0_1.length c0_1]] rfl (by (try simp only [List.map_toArray, List.map_cons, List.map_nil]); first | done | rfl | (simp only [List.length_drop, List.length_take]; rfl)) ?_; (with_reducible refine (selector_Weight.calls k1 _ _ l0_0 _ _ l0_1 t238 _ ?side1 ?side2 ?side3 ?side4 A36.out).mono ?_); (case side1 => repeat (first | exact (Kd.V_reads' HO_224000.out).2.2 | (with_reducible refine Kd.C_alloc ?_ _) | (with_reducible refine Kd.C_drewN ?_ _) | (with_reducible refine Kd.C_drew ?_))); (case side2 => exact (Kd.V_reads' HO_224000.out).2.1); (case side3 => repeat (first | exact (Kd.V_reads' HO_224001.out).2.2 | (with_reducible refine Kd.C_alloc ?_ _) | (with_reducible refine Kd.C_drewN ?_ _) | (with_reducible refine Kd.C_drew ?_))); (case side4 => exact (Kd.V_reads' HO_224001.out).2.1); rintro e w52 ⟨rfl, hb⟩; refine ⟨_, rfl, ?_⟩; have n0_ := Aside0.mk (Kd.V_below (by (with_reducible repeat (first | apply Kd.V_alloc | apply Kd.V_drewN | apply Kd.V_drew)); exact HO_15.out) hb); have n1_ := Aside0.mk (Kd.V_below (by (with_reducible repeat (first | apply Kd.V_alloc | apply Kd.V_drewN | apply Kd.V_drew)); exact HO_224000.out) hb); have n2_ := Aside0.mk (Kd.V_below (by (with_reducible repeat (first | apply Kd.V_alloc | apply Kd.V_drewN | apply Kd.V_drew)); exact HO_224001.out) hb); have n3_ := Aside0.mk (blk_below (g := gb223) (o := .cells #[.slice A0_0 l0_0.length c0_0, .slice A0_1 l0_1.length c0_1] 25 (0, 0)) (by (with_reducible repeat (first | refine blk_drewN ?_ _ | refine blk_drew ?_ | refine blk_alloc ?_ _)); exact BK223.out) hb); have n4_ := Aside0.mk (below_step (by repeat (first | (with_reducible first | exact HB.out | apply below_alloc | apply pw_below_drewN | apply below_drew1 | refine below_set ?_ GE223.out) | exact HB.out)) hb); clear HO_15; clear HO_224000; clear HO_224001; clear BK223; clear HB; have HO_15 := n0_; have HO_224000 := n1_; have HO_224001 := n2_; have BK223 := n3_; have HB := n4_; clear n0_ n1_ n2_ n3_ n4_; (try clear hb); (try clear hb2); (try clear hk); (try clear hi); have hcz53_0 : w52.cell? ⟨gb223, 0, none⟩ = some (.slice A0_0 l0_0.length c0_0) := (blk_cell BK223.out 0).trans rfl; have hcz53_1 : w52.cell? ⟨gb223, 1, none⟩ = some (.slice A0_1 l0_1.length c0_1) := (blk_cell BK223.out 1).trans rfl; have hfz53_0 := blk_frozen BK223.out 0; have hfz53_1 := blk_frozen BK223.out 1))
                            have n0_ := Aside0.mk (Kd.V_drew HO_15.out)
                            have n1_ := Aside0.mk (Kd.V_drew HO_224000.out)
                            have n2_ := Aside0.mk (Kd.V_drew HO_224001.out)
                            have n3_ := Aside0.mk (blk_drew BK223.out)
                            have n4_ := Aside0.mk (below_drew1 HB.out)
                            clear HO_15
                            clear HO_224000
                            clear HO_224001
                            clear BK223
                            clear HB
                            have HO_15 := n0_
                            have HO_224000 := n1_
                            have HO_224001 := n2_
                            have BK223 := n3_
                            have HB := n4_
                            clear n0_ n1_ n2_ n3_ n4_
                            refine start_ (n := 9) (S := fun w' => w'.cell? ⟨gb223, 0, none⟩ = some (.slice A0_0 l0_0.length c0_0) ∧ w'.cell? ⟨gb223, 1, none⟩ = some (.slice A0_1 l0_1.length c0_1)) (ds := []) #[false, false, false, false, false, false, false, false, false] (by kernel_rfl) rfl rfl ⟨(blk_cell BK223.out 0).trans rfl, (blk_cell BK223.out 1).trans rfl⟩ (fun hHeld => ?_); refine with_tabW scrimlaw09_SelectorWeighs.tab15 scrimlaw09_SelectorWeighs.bits15 (fun HT_ HW_ => ?_)
                            generalize w52.drew = w54 at HO_15 HO_224000 HO_224001 BK223 HB hHeld ⊢
                            refine pure_ (i := 1) (N := some 42) (v := ?_) (a' := ?_) #[false, true, false, false, false, false, false, false, false] rfl rfl (any_of HT_.out (by kernel_rfl)) (fun _ _ _ h => h) (Or.inl ⟨by rfl, ?_⟩) ?_ ?_
                            rotate_left
                            · intro w'
                              go_simp
                              with_reducible rfl
                            rotate_left
                            · simp only [Act.put, List.setIfInBounds_toArray, List.set_cons_zero, List.set_cons_succ, i64_w, i32_w]
                              rfl
                            refine pure_ (i := 4) (N := some 45) (v := ?_) (a' := ?_) #[false, true, false, false, true, false, false, false, false] rfl rfl (any_of HT_.out (by kernel_rfl)) (fun _ _ _ h => h) (Or.inl ⟨by rfl, ?_⟩) ?_ ?_
                            rotate_left
                            · intro w'
                              go_simp
                              with_reducible rfl
                            rotate_left
                            · simp only [Act.put, List.setIfInBounds_toArray, List.set_cons_zero, List.set_cons_succ, i64_w, i32_w]
                              rfl
                            refine take_ (i := 2) (N := some 43) (v := ?_) (a' := ?_) #[false, true, true, false, true, false, false, false, false] rfl rfl (take_ofW HT_.out HW_.out (by kernel_rfl)) (fun _ _ _ h => h) (Or.inl ⟨by rfl, ?_⟩) hHeld ?_ ?_
                            rotate_left
                            · rintro w' ⟨s0, s1⟩
                              go_simp
                              with_reducible rfl
                            rotate_left
                            · simp only [Act.put, List.setIfInBounds_toArray, List.set_cons_zero, List.set_cons_succ, i64_w, i32_w]
                              rfl
                            refine take_ (i := 5) (N := some 46) (v := ?_) (a' := ?_) #[false, true, true, false, true, true, false, false, false] rfl rfl (take_ofW HT_.out HW_.out (by kernel_rfl)) (fun _ _ _ h => h) (Or.inl ⟨by rfl, ?_⟩) hHeld ?_ ?_
                            rotate_left
                            · rintro w' ⟨s0, s1⟩
                              go_simp
                              with_reducible rfl
                            rotate_left
                            · simp only [Act.put, List.setIfInBounds_toArray, List.set_cons_zero, List.set_cons_succ, i64_w, i32_w]
                              rfl
                            refine join_ (σ := Value × Value × Nat) 1 #[true, true, true, true, true, true, true, true, false] (fun s_ => [(41, s_.1), (44, s_.2.1), (8, .pointer (some ⟨s_.2.2, 0, none⟩)), (47, .agg #[s_.2.1, .slice A0_1 l0_1.length c0_1])]) (fun s_ w' => (w'.cell? ⟨gb223, 0, none⟩ = some (.slice A0_0 l0_0.length c0_0) ∧ w'.cell? ⟨gb223, 1, none⟩ = some (.slice A0_1 l0_1.length c0_1)) ∧ (Kd.N k44 44 w' w.heap.size (fun k_ => ((P0_0_ k_ ∨ P0_1_ k_) ∨ w.heap.size ≤ k_) ∧ k_ ≠ gb223 ∧ k_ ≠ s_.2.2) s_.2.1 y242) ∧ (Kd.V k44 44 w' w.heap.size (fun k_ => ((P0_0_ k_ ∨ P0_1_ k_) ∨ w.heap.size ≤ k_) ∧ some k_ ≠ (s_.2.1 : Value).ownBlock ∧ k_ ≠ gb223 ∧ k_ ≠ s_.2.2) (.slice A0_0 l0_0.length c0_0) l0_0) ∧ (Kd.V k44 44 w' w.heap.size (fun k_ => ((P0_0_ k_ ∨ P0_1_ k_) ∨ w.heap.size ≤ k_) ∧ some k_ ≠ (s_.2.1 : Value).ownBlock ∧ k_ ≠ gb223 ∧ k_ ≠ s_.2.2) (.slice A0_0 l0_0.length c0_0) l0_0) ∧ (Kd.V Kd.bool 4 w' w.heap.size (fun k_ => ((P0_0_ k_ ∨ P0_1_ k_) ∨ w.heap.size ≤ k_) ∧ some k_ ≠ (s_.2.1 : Value).ownBlock ∧ k_ ≠ gb223 ∧ k_ ≠ s_.2.2) (.slice A0_1 l0_1.length c0_1) l0_1) ∧ (w'.heap[gb223]? = some (.cells #[.slice A0_0 l0_0.length c0_0, .slice A0_1 l0_1.length c0_1] 25 (0, 0))) ∧ (w'.heap[s_.2.2]? = some (.cells #[.slice none 0 0, .slice none 0 0] 25 (0, 0))) ∧ (w.heap.size ≤ s_.2.2) ∧ (w.heap.size ≤ s_.2.2) ∧ (gb223 ≠ s_.2.2) ∧ (s_.2.2 ≠ gb223) ∧ (Below w.heap.size w w')) ?_ ?_
                            rotate_left
                            · intro hCont
                              refine two_ (i := 0) (j := 7) (Ni := some 41) (Nj := some 8) #[true, true, true, false, true, true, false, false, false] #[false, true, true, false, true, true, false, true, false] rfl rfl rfl rfl (two_of HT_.out (by kernel_rfl)) (by decide) (by decide) (fun K hK => ?_) (fun K hK => ?_)
                              · skip
                                refine Kd.N_lit_step k44 _ 44 ?hg (N' := 41) ?hd (xs := ([] : List (S44))) (inner := []) (ok := (fun k_ => ((P0_0_ k_ ∨ P0_1_ k_) ∨ w.heap.size ≤ k_) ∧ k_ ≠ gb223)) (okp := (fun k_ => ((P0_0_ k_ ∨ P0_1_ k_) ∨ w.heap.size ≤ k_) ∧ k_ ≠ gb223)) ?hr ?hp (fun _ hk => hk) ((show ∀ k_, w54.heap.size ≤ k_ → (fun k_ => ((P0_0_ k_ ∨ P0_1_ k_) ∨ w.heap.size ≤ k_) ∧ k_ ≠ gb223) k_ from fun k_ hk => ⟨(.inr (Nat.le_trans (below_size (by repeat (first | (with_reducible first | exact HB.out | apply below_alloc | apply pw_below_drewN | apply below_drew1 | refine below_set ?_ GE223.out) | exact HB.out))) hk)), Kd.freshB (g := gb223) (o := .cells #[.slice A0_0 l0_0.length c0_0, .slice A0_1 l0_1.length c0_1] 25 (0, 0)) (by (with_reducible repeat (first | refine blk_drewN ?_ _ | refine blk_drew ?_ | refine blk_alloc ?_ _)); exact BK223.out) k_ hk⟩) _ (Nat.le_refl _)) (Below.refl _ _) (Nat.le_refl _) (by simp) ?_; (case hd => rfl); (case hg => rfl); (case hr => first | (go_simp; done) | (go_simp; rfl)); (case hp => exact (Reps.none _ _))
                                intro v240 w55 ho56 hb hg_ hnew_
                                clear hg_ hnew_
                                (first | rw [← Ny239.out] at ho56 | (simp only [Int.reduceToNat] at ho56; rw [← Ny239.out] at ho56))
                                have n0_ := Aside0.mk (Kd.V_elder' (by (with_reducible repeat (first | apply Kd.V_alloc | apply Kd.V_drewN | apply Kd.V_drew)); exact HO_15.out) (by first | exact Kd.N_base ho56 | exact Kd.S_base ho56) hb)
                                have n1_ := Aside0.mk (Kd.V_elder' (by (with_reducible repeat (first | apply Kd.V_alloc | apply Kd.V_drewN | apply Kd.V_drew)); exact HO_224000.out) (by first | exact Kd.N_base ho56 | exact Kd.S_base ho56) hb)
                                have n2_ := Aside0.mk (Kd.V_elder' (by (with_reducible repeat (first | apply Kd.V_alloc | apply Kd.V_drewN | apply Kd.V_drew)); exact HO_224001.out) (by first | exact Kd.N_base ho56 | exact Kd.S_base ho56) hb)
                                have n3_ := Aside0.mk (Kd.N_lower ho56 (below_size (by repeat (first | (with_reducible first | exact HB.out | apply below_alloc | apply pw_below_drewN | apply below_drew1 | refine below_set ?_ GE223.out) | exact HB.out))))
                                have n4_ := Aside0.mk (blk_below (g := gb223) (o := .cells #[.slice A0_0 l0_0.length c0_0, .slice A0_1 l0_1.length c0_1] 25 (0, 0)) (by (with_reducible repeat (first | refine blk_drewN ?_ _ | refine blk_drew ?_ | refine blk_alloc ?_ _)); exact BK223.out) hb)
                                have n5_ := Aside0.mk (below_step (by repeat (first | (with_reducible first | exact HB.out | apply below_alloc | apply pw_below_drewN | apply below_drew1 | refine below_set ?_ GE223.out) | exact HB.out)) hb)
                                clear HO_15
                                clear HO_224000
                                clear HO_224001
                                clear BK223
                                clear HB
                                have HO_15 := n0_
                                have HO_224000 := n1_
                                have HO_224001 := n2_
                                have HO241 := n3_
                                have BK223 := n4_
                                have HB := n5_
                                clear n0_ n1_ n2_ n3_ n4_ n5_
                                clear hb ho56
                                refine hK.out _ _ ⟨(blk_cell BK223.out 0).trans rfl, (blk_cell BK223.out 1).trans rfl⟩ (fun hHeld => ?_)
                                clear hK K
                                refine norm_ (a' := ?_) ?_ ?_
                                rotate_left
                                · show Act.put _ (some 41) _ = _
                                  simp only [Act.put, List.setIfInBounds_toArray, List.set_cons_zero, List.set_cons_succ, i64_w, i32_w]
                                  rfl
                                refine two_ (i := 3) (j := 7) (Ni := some 44) (Nj := some 8) #[true, true, true, true, true, true, false, false, false] #[true, true, true, false, true, true, false, true, false] rfl rfl rfl rfl (two_of HT_.out (by kernel_rfl)) (by decide) (by decide) (fun K hK => ?_) (fun K hK => ?_)
                                · skip
                                  refine Kd.N_append_rows_step k44 (w0 := w) w.heap.size (by rfl) (.tmp 41) (.tmp 43) 22 44 (.agg #[(.string ⟨#[]⟩), (.slice none 0 0), (.slice none 0 0), (.bool false), (.bool false)]) 72 rfl Tryd.underlying22 info44 rfl (by decide) (by omega) v240 y239 l0_0 _ _ _ (fun k_ => ((P0_0_ k_ ∨ P0_1_ k_) ∨ w.heap.size ≤ k_) ∧ k_ ≠ gb223) (fun k_ => ((fun k_ => ((P0_0_ k_ ∨ P0_1_ k_) ∨ w.heap.size ≤ k_) ∧ k_ ≠ gb223)) k_ ∧ some k_ ≠ (v240 : Value).ownBlock) rfl rfl ?aO ?aR (fun _ hk => hk) ?aF ?aB ?aS ?aL ?_
                                  (case aR => exact (by skip; exact Kd.V_F (Kd.V_mono (ok' := (fun k_ => ((fun k_ => ((P0_0_ k_ ∨ P0_1_ k_) ∨ w.heap.size ≤ k_) ∧ k_ ≠ gb223)) k_ ∧ some k_ ≠ (v240 : Value).ownBlock)) (HO_224000.out) (fun k_ hk => ⟨⟨hk.1.1, hk.1.2⟩, hk.2⟩))))
                                  (case aB => exact (by repeat (first | (with_reducible first | exact HB.out | apply below_alloc | apply pw_below_drewN | apply below_drew1 | refine below_set ?_ GE223.out) | exact HB.out)))
                                  (case aF => exact (fun k_ hk => ⟨(.inr (Nat.le_trans (below_size (by repeat (first | (with_reducible first | exact HB.out | apply below_alloc | apply pw_below_drewN | apply below_drew1 | refine below_set ?_ GE223.out) | exact HB.out))) hk)), Kd.freshB (g := gb223) (o := .cells #[.slice A0_0 l0_0.length c0_0, .slice A0_1 l0_1.length c0_1] 25 (0, 0)) (by (with_reducible repeat (first | refine blk_drewN ?_ _ | refine blk_drew ?_ | refine blk_alloc ?_ _)); exact BK223.out) k_ hk⟩))
                                  (case aO => exact (by (with_reducible repeat (first | apply Kd.N_alloc | apply Kd.N_drewN | apply Kd.N_drew)); exact HO241.out))
                                  (case aS => exact (below_size (by repeat (first | (with_reducible first | exact HB.out | apply below_alloc | apply pw_below_drewN | apply below_drew1 | refine below_set ?_ GE223.out) | exact HB.out))))
                                  (case aL => have := LMc45.out; omega)
                                  intro v243 w57 ho hb hg hat
                                  rw [← Ny242.out] at ho
                                  have n0_ := Aside0.mk (Kd.V_afterv (ok := (fun k_ => ((P0_0_ k_ ∨ P0_1_ k_) ∨ w.heap.size ≤ k_) ∧ k_ ≠ gb223)) (by (with_reducible repeat (first | apply Kd.V_alloc | apply Kd.V_drewN | apply Kd.V_drew)); exact HO_15.out) hg hat)
                                  have n1_ := Aside0.mk (Kd.V_afterv (ok := (fun k_ => ((P0_0_ k_ ∨ P0_1_ k_) ∨ w.heap.size ≤ k_) ∧ k_ ≠ gb223)) (by (with_reducible repeat (first | apply Kd.V_alloc | apply Kd.V_drewN | apply Kd.V_drew)); exact HO_224000.out) hg hat)
                                  have n2_ := Aside0.mk (Kd.V_afterv (ok := (fun k_ => ((P0_0_ k_ ∨ P0_1_ k_) ∨ w.heap.size ≤ k_) ∧ k_ ≠ gb223)) (by (with_reducible repeat (first | apply Kd.V_alloc | apply Kd.V_drewN | apply Kd.V_drew)); exact HO_224001.out) hg hat)
                                  have n3_ := Aside0.mk (blk_grown (g := gb223) (o := .cells #[.slice A0_0 l0_0.length c0_0, .slice A0_1 l0_1.length c0_1] 25 (0, 0)) (by (with_reducible repeat (first | refine blk_drewN ?_ _ | refine blk_drew ?_ | refine blk_alloc ?_ _)); exact BK223.out) hg (Kd.N_ne HO241.out BK223.out (by decide)))
                                  have n4_ := Aside0.mk (hb)
                                  have n5_ := Aside0.mk (ho)
                                  clear HO_15
                                  clear HO_224000
                                  clear HO_224001
                                  clear BK223
                                  clear HB
                                  clear HO241
                                  have HO_15 := n0_
                                  have HO_224000 := n1_
                                  have HO_224001 := n2_
                                  have BK223 := n3_
                                  have HB := n4_
                                  have HO244 := n5_
                                  clear n0_ n1_ n2_ n3_ n4_ n5_
                                  clear ho hb hg hat
                                  obtain ⟨Ao58, co58, eo58⟩ := Kd.N_slice HO244.out
                                  (first | subst eo58 | (injection eo58 with f1_ f2_ f3_; have f4_ := f1_.symm; have f5_ := f3_.symm; clear f1_ f2_ f3_; subst f4_; subst f5_))
                                  refine hK.out _ _ ⟨(blk_cell BK223.out 0).trans rfl, (blk_cell BK223.out 1).trans rfl⟩ (fun hHeld => ?_)
                                  clear hK K
                                  refine norm_ (a' := ?_) ?_ ?_
                                  rotate_left
                                  · show Act.put _ (some 44) _ = _
                                    simp only [Act.put, List.setIfInBounds_toArray, List.set_cons_zero, List.set_cons_succ, i64_w, i32_w]
                                    rfl
                                  refine pure_ (i := 6) (N := some 47) (v := ?_) (a' := ?_) #[true, true, true, true, true, true, true, false, false] rfl rfl (any_of HT_.out (by kernel_rfl)) (fun _ _ _ h => h) (Or.inl ⟨by rfl, ?_⟩) ?_ ?_
                                  rotate_left
                                  · intro w'
                                    go_simp
                                    with_reducible rfl
                                  rotate_left
                                  · simp only [Act.put, List.setIfInBounds_toArray, List.set_cons_zero, List.set_cons_succ, i64_w, i32_w]
                                    rfl
                                  refine one_ (i := 7) (N := some 8) #[true, true, true, true, true, true, true, true, false] rfl rfl (one_of HT_.out (by kernel_rfl)) (by decide) (fun K hK => ?_)
                                  refine box_step ?hg (N := 8) ?hd (cs := #[.slice none 0 0, .slice none 0 0]) (t := 25) ?hr ?_; (case hd => rfl); (case hg => rfl); (case hr => first | (go_simp; done) | (go_simp; rfl))
                                  intro gb245 hg w59 hbox hb
                                  have n0_ := Aside0.mk (Kd.V_below (Kd.V_elderB (by (with_reducible repeat (first | apply Kd.V_alloc | apply Kd.V_drewN | apply Kd.V_drew)); exact HO_15.out) gb245 (Nat.le_of_eq hg.symm)) hb)
                                  have n1_ := Aside0.mk (Kd.V_below (Kd.V_elderB (by (with_reducible repeat (first | apply Kd.V_alloc | apply Kd.V_drewN | apply Kd.V_drew)); exact HO_224000.out) gb245 (Nat.le_of_eq hg.symm)) hb)
                                  have n2_ := Aside0.mk (Kd.V_below (Kd.V_elderB (by (with_reducible repeat (first | apply Kd.V_alloc | apply Kd.V_drewN | apply Kd.V_drew)); exact HO_224001.out) gb245 (Nat.le_of_eq hg.symm)) hb)
                                  have n3_ := Aside0.mk (Kd.N_below (Kd.N_elderB (by (with_reducible repeat (first | apply Kd.N_alloc | apply Kd.N_drewN | apply Kd.N_drew)); exact HO244.out) gb245 (Nat.le_of_eq hg.symm)) hb)
                                  have n4_ := Aside0.mk (blk_below (g := gb223) (o := .cells #[.slice A0_0 l0_0.length c0_0, .slice A0_1 l0_1.length c0_1] 25 (0, 0)) (by (with_reducible repeat (first | refine blk_drewN ?_ _ | refine blk_drew ?_ | refine blk_alloc ?_ _)); exact BK223.out) hb)
                                  have n5_ := Aside0.mk (below_step (by repeat (first | (with_reducible first | exact HB.out | apply below_alloc | apply pw_below_drewN | apply below_drew1 | refine below_set ?_ GE223.out) | exact HB.out)) hb)
                                  have n6_ := Aside0.mk (hbox)
                                  have n7_ := Aside0.mk ((by rw [hg]; exact (below_size (by repeat (first | (with_reducible first | exact HB.out | apply below_alloc | apply pw_below_drewN | apply below_drew1 | refine below_set ?_ GE223.out) | exact HB.out))) : w.heap.size ≤ gb245))
                                  have n8_ := Aside0.mk ((by rw [hg]; exact (below_size (by repeat (first | (with_reducible first | exact HB.out | apply below_alloc | apply pw_below_drewN | apply below_drew1 | refine below_set ?_ GE223.out) | exact HB.out))) : w.heap.size ≤ gb245))
                                  have n9_ := Aside0.mk ((by rw [hg]; exact Nat.ne_of_lt (blk_lt (g := gb223) (o := .cells #[.slice A0_0 l0_0.length c0_0, .slice A0_1 l0_1.length c0_1] 25 (0, 0)) (by (with_reducible repeat (first | refine blk_drewN ?_ _ | refine blk_drew ?_ | refine blk_alloc ?_ _)); exact BK223.out)) : gb223 ≠ gb245))
                                  have n10_ := Aside0.mk ((by rw [hg]; exact Nat.ne_of_gt (blk_lt (g := gb223) (o := .cells #[.slice A0_0 l0_0.length c0_0, .slice A0_1 l0_1.length c0_1] 25 (0, 0)) (by (with_reducible repeat (first | refine blk_drewN ?_ _ | refine blk_drew ?_ | refine blk_alloc ?_ _)); exact BK223.out)) : gb245 ≠ gb223))
                                  clear HO_15
                                  clear HO_224000
                                  clear HO_224001
                                  clear HO244
                                  clear BK223
                                  clear HB
                                  have HO_15 := n0_
                                  have HO_224000 := n1_
                                  have HO_224001 := n2_
                                  have HO244 := n3_
                                  have BK223 := n4_
                                  have HB := n5_
                                  have BK245 := n6_
                                  have GW245 := n7_
                                  have GE245 := n8_
                                  have NB223_245 := n9_
                                  have NB245_223 := n10_
                                  clear n0_ n1_ n2_ n3_ n4_ n5_ n6_ n7_ n8_ n9_ n10_
                                  clear hb hbox hg
                                  refine hK.out _ _ ⟨(blk_cell BK223.out 0).trans rfl, (blk_cell BK223.out 1).trans rfl⟩ (fun hHeld => ?_)
                                  clear hK K
                                  refine norm_ (a' := ?_) ?_ ?_
                                  rotate_left
                                  · show Act.put _ (some 8) _ = _
                                    simp only [Act.put, List.setIfInBounds_toArray, List.set_cons_zero, List.set_cons_succ, i64_w, i32_w]
                                    rfl
                                  exact norm_ (by simp only [putAll, Act.put, List.setIfInBounds_toArray, List.set_cons_zero, List.set_cons_succ]) (hCont (v240, .slice Ao58 y242.length co58, gb245) _ ⟨hHeld, (by (with_reducible repeat (first | apply Kd.N_alloc | apply Kd.N_drewN | apply Kd.N_drew)); exact Kd.N_mono HO244.out (fun _ hk => ⟨hk.1.1, ⟨hk.1.2, hk.2⟩⟩)), (by (with_reducible repeat (first | apply Kd.V_alloc | apply Kd.V_drewN | apply Kd.V_drew)); exact Kd.V_mono HO_15.out (fun _ hk => ⟨hk.1.1.1, ⟨hk.1.2, ⟨hk.1.1.2, hk.2⟩⟩⟩)), (by (with_reducible repeat (first | apply Kd.V_alloc | apply Kd.V_drewN | apply Kd.V_drew)); exact Kd.V_mono HO_224000.out (fun _ hk => ⟨hk.1.1.1, ⟨hk.1.2, ⟨hk.1.1.2, hk.2⟩⟩⟩)), (by (with_reducible repeat (first | apply Kd.V_alloc | apply Kd.V_drewN | apply Kd.V_drew)); exact Kd.V_mono HO_224001.out (fun _ hk => ⟨hk.1.1.1, ⟨hk.1.2, ⟨hk.1.1.2, hk.2⟩⟩⟩)), (by (with_reducible repeat (first | refine blk_drewN ?_ _ | refine blk_drew ?_ | refine blk_alloc ?_ _)); exact BK223.out), (by (with_reducible repeat (first | refine blk_drewN ?_ _ | refine blk_drew ?_ | refine blk_alloc ?_ _)); exact BK245.out), GW245.out, GE245.out, NB223_245.out, NB245_223.out, (by repeat (first | (with_reducible first | exact HB.out | apply below_alloc | apply pw_below_drewN | apply below_drew1 | refine below_set ?_ GE223.out | refine below_set ?_ GE245.out) | exact HB.out))⟩)
                                · skip
                                  refine box_step ?hg (N := 8) ?hd (cs := #[.slice none 0 0, .slice none 0 0]) (t := 25) ?hr ?_; (case hd => rfl); (case hg => rfl); (case hr => first | (go_simp; done) | (go_simp; rfl))
                                  intro gb245 hg w57 hbox hb
                                  have n0_ := Aside0.mk (Kd.V_below (Kd.V_elderB (by (with_reducible repeat (first | apply Kd.V_alloc | apply Kd.V_drewN | apply Kd.V_drew)); exact HO_15.out) gb245 (Nat.le_of_eq hg.symm)) hb)
                                  have n1_ := Aside0.mk (Kd.V_below (Kd.V_elderB (by (with_reducible repeat (first | apply Kd.V_alloc | apply Kd.V_drewN | apply Kd.V_drew)); exact HO_224000.out) gb245 (Nat.le_of_eq hg.symm)) hb)
                                  have n2_ := Aside0.mk (Kd.V_below (Kd.V_elderB (by (with_reducible repeat (first | apply Kd.V_alloc | apply Kd.V_drewN | apply Kd.V_drew)); exact HO_224001.out) gb245 (Nat.le_of_eq hg.symm)) hb)
                                  have n3_ := Aside0.mk (Kd.N_below (Kd.N_elderB (by (with_reducible repeat (first | apply Kd.N_alloc | apply Kd.N_drewN | apply Kd.N_drew)); exact HO241.out) gb245 (Nat.le_of_eq hg.symm)) hb)
                                  have n4_ := Aside0.mk (blk_below (g := gb223) (o := .cells #[.slice A0_0 l0_0.length c0_0, .slice A0_1 l0_1.length c0_1] 25 (0, 0)) (by (with_reducible repeat (first | refine blk_drewN ?_ _ | refine blk_drew ?_ | refine blk_alloc ?_ _)); exact BK223.out) hb)
                                  have n5_ := Aside0.mk (below_step (by repeat (first | (with_reducible first | exact HB.out | apply below_alloc | apply pw_below_drewN | apply below_drew1 | refine below_set ?_ GE223.out) | exact HB.out)) hb)
                                  have n6_ := Aside0.mk (hbox)
                                  have n7_ := Aside0.mk ((by rw [hg]; exact (below_size (by repeat (first | (with_reducible first | exact HB.out | apply below_alloc | apply pw_below_drewN | apply below_drew1 | refine below_set ?_ GE223.out) | exact HB.out))) : w.heap.size ≤ gb245))
                                  have n8_ := Aside0.mk ((by rw [hg]; exact (below_size (by repeat (first | (with_reducible first | exact HB.out | apply below_alloc | apply pw_below_drewN | apply below_drew1 | refine below_set ?_ GE223.out) | exact HB.out))) : w.heap.size ≤ gb245))
                                  have n9_ := Aside0.mk ((by rw [hg]; exact Nat.ne_of_lt (blk_lt (g := gb223) (o := .cells #[.slice A0_0 l0_0.length c0_0, .slice A0_1 l0_1.length c0_1] 25 (0, 0)) (by (with_reducible repeat (first | refine blk_drewN ?_ _ | refine blk_drew ?_ | refine blk_alloc ?_ _)); exact BK223.out)) : gb223 ≠ gb245))
                                  have n10_ := Aside0.mk ((by rw [hg]; exact Nat.ne_of_gt (blk_lt (g := gb223) (o := .cells #[.slice A0_0 l0_0.length c0_0, .slice A0_1 l0_1.length c0_1] 25 (0, 0)) (by (with_reducible repeat (first | refine blk_drewN ?_ _ | refine blk_drew ?_ | refine blk_alloc ?_ _)); exact BK223.out)) : gb245 ≠ gb223))
                                  clear HO_15
                                  clear HO_224000
                                  clear HO_224001
                                  clear HO241
                                  clear BK223
                                  clear HB
                                  have HO_15 := n0_
                                  have HO_224000 := n1_
                                  have HO_224001 := n2_
                                  have HO241 := n3_
                                  have BK223 := n4_
                                  have HB := n5_
                                  have BK245 := n6_
                                  have GW245 := n7_
                                  have GE245 := n8_
                                  have NB223_245 := n9_
                                  have NB245_223 := n10_
                                  clear n0_ n1_ n2_ n3_ n4_ n5_ n6_ n7_ n8_ n9_ n10_
                                  clear hb hbox hg
                                  refine hK.out _ _ ⟨(blk_cell BK223.out 0).trans rfl, (blk_cell BK223.out 1).trans rfl⟩ (fun hHeld => ?_)
                                  clear hK K
                                  refine norm_ (a' := ?_) ?_ ?_
                                  rotate_left
                                  · show Act.put _ (some 8) _ = _
                                    simp only [Act.put, List.setIfInBounds_toArray, List.set_cons_zero, List.set_cons_succ, i64_w, i32_w]
                                    rfl
                                  refine one_ (i := 3) (N := some 44) #[true, true, true, true, true, true, false, true, false] rfl rfl (one_of HT_.out (by kernel_rfl)) (by decide) (fun K hK => ?_)
                                  refine Kd.N_append_rows_step k44 (w0 := w) w.heap.size (by rfl) (.tmp 41) (.tmp 43) 22 44 (.agg #[(.string ⟨#[]⟩), (.slice none 0 0), (.slice none 0 0), (.bool false), (.bool false)]) 72 rfl Tryd.underlying22 info44 rfl (by decide) (by omega) v240 y239 l0_0 _ _ _ (fun k_ => ((P0_0_ k_ ∨ P0_1_ k_) ∨ w.heap.size ≤ k_) ∧ k_ ≠ gb223 ∧ k_ ≠ gb245) (fun k_ => ((fun k_ => ((P0_0_ k_ ∨ P0_1_ k_) ∨ w.heap.size ≤ k_) ∧ k_ ≠ gb223 ∧ k_ ≠ gb245)) k_ ∧ some k_ ≠ (v240 : Value).ownBlock) rfl rfl ?aO ?aR (fun _ hk => hk) ?aF ?aB ?aS ?aL ?_
                                  (case aR => exact (by skip; exact Kd.V_F (Kd.V_mono (ok' := (fun k_ => ((fun k_ => ((P0_0_ k_ ∨ P0_1_ k_) ∨ w.heap.size ≤ k_) ∧ k_ ≠ gb223 ∧ k_ ≠ gb245)) k_ ∧ some k_ ≠ (v240 : Value).ownBlock)) (HO_224000.out) (fun k_ hk => ⟨⟨hk.1.1.1, ⟨hk.1.1.2, hk.2⟩⟩, hk.1.2⟩))))
                                  (case aB => exact (by repeat (first | (with_reducible first | exact HB.out | apply below_alloc | apply pw_below_drewN | apply below_drew1 | refine below_set ?_ GE223.out | refine below_set ?_ GE245.out) | exact HB.out)))
                                  (case aF => exact (fun k_ hk => ⟨(.inr (Nat.le_trans (below_size (by repeat (first | (with_reducible first | exact HB.out | apply below_alloc | apply pw_below_drewN | apply below_drew1 | refine below_set ?_ GE223.out | refine below_set ?_ GE245.out) | exact HB.out))) hk)), Kd.freshB (g := gb223) (o := .cells #[.slice A0_0 l0_0.length c0_0, .slice A0_1 l0_1.length c0_1] 25 (0, 0)) (by (with_reducible repeat (first | refine blk_drewN ?_ _ | refine blk_drew ?_ | refine blk_alloc ?_ _)); exact BK223.out) k_ hk, Kd.freshB (g := gb245) (o := .cells #[.slice none 0 0, .slice none 0 0] 25 (0, 0)) (by (with_reducible repeat (first | refine blk_drewN ?_ _ | refine blk_drew ?_ | refine blk_alloc ?_ _)); exact BK245.out) k_ hk⟩))
                                  (case aO => exact (by (with_reducible repeat (first | apply Kd.N_alloc | apply Kd.N_drewN | apply Kd.N_drew)); exact Kd.N_mono HO241.out (fun _ hk => ⟨hk.1.1, ⟨hk.1.2, hk.2⟩⟩)))
                                  (case aS => exact (below_size (by repeat (first | (with_reducible first | exact HB.out | apply below_alloc | apply pw_below_drewN | apply below_drew1 | refine below_set ?_ GE223.out | refine below_set ?_ GE245.out) | exact HB.out))))
                                  (case aL => have := LMc45.out; omega)
                                  intro v243 w58 ho hb hg hat
                                  rw [← Ny242.out] at ho
                                  have n0_ := Aside0.mk (Kd.V_afterv (ok := (fun k_ => ((P0_0_ k_ ∨ P0_1_ k_) ∨ w.heap.size ≤ k_) ∧ k_ ≠ gb223 ∧ k_ ≠ gb245)) (by (with_reducible repeat (first | apply Kd.V_alloc | apply Kd.V_drewN | apply Kd.V_drew)); exact Kd.V_mono HO_15.out (fun _ hk => ⟨⟨hk.1.1.1, ⟨hk.1.1.2, hk.2⟩⟩, hk.1.2⟩)) hg hat)
                                  have n1_ := Aside0.mk (Kd.V_afterv (ok := (fun k_ => ((P0_0_ k_ ∨ P0_1_ k_) ∨ w.heap.size ≤ k_) ∧ k_ ≠ gb223 ∧ k_ ≠ gb245)) (by (with_reducible repeat (first | apply Kd.V_alloc | apply Kd.V_drewN | apply Kd.V_drew)); exact Kd.V_mono HO_224000.out (fun _ hk => ⟨⟨hk.1.1.1, ⟨hk.1.1.2, hk.2⟩⟩, hk.1.2⟩)) hg hat)
                                  have n2_ := Aside0.mk (Kd.V_afterv (ok := (fun k_ => ((P0_0_ k_ ∨ P0_1_ k_) ∨ w.heap.size ≤ k_) ∧ k_ ≠ gb223 ∧ k_ ≠ gb245)) (by (with_reducible repeat (first | apply Kd.V_alloc | apply Kd.V_drewN | apply Kd.V_drew)); exact Kd.V_mono HO_224001.out (fun _ hk => ⟨⟨hk.1.1.1, ⟨hk.1.1.2, hk.2⟩⟩, hk.1.2⟩)) hg hat)
                                  have n3_ := Aside0.mk (blk_grown (g := gb223) (o := .cells #[.slice A0_0 l0_0.length c0_0, .slice A0_1 l0_1.length c0_1] 25 (0, 0)) (by (with_reducible repeat (first | refine blk_drewN ?_ _ | refine blk_drew ?_ | refine blk_alloc ?_ _)); exact BK223.out) hg (Kd.N_ne HO241.out BK223.out (by decide)))
                                  have n4_ := Aside0.mk (blk_grown (g := gb245) (o := .cells #[.slice none 0 0, .slice none 0 0] 25 (0, 0)) (by (with_reducible repeat (first | refine blk_drewN ?_ _ | refine blk_drew ?_ | refine blk_alloc ?_ _)); exact BK245.out) hg (Kd.N_ne HO241.out BK245.out (by decide)))
                                  have n5_ := Aside0.mk (hb)
                                  have n6_ := Aside0.mk (ho)
                                  clear HO_15
                                  clear HO_224000
                                  clear HO_224001
                                  clear BK223
                                  clear BK245
                                  clear HB
                                  clear HO241
                                  have HO_15 := n0_
                                  have HO_224000 := n1_
                                  have HO_224001 := n2_
                                  have BK223 := n3_
                                  have BK245 := n4_
                                  have HB := n5_
                                  have HO244 := n6_
                                  clear n0_ n1_ n2_ n3_ n4_ n5_ n6_
                                  clear ho hb hg hat
                                  obtain ⟨Ao59, co59, eo59⟩ := Kd.N_slice HO244.out
                                  (first | subst eo59 | (injection eo59 with f1_ f2_ f3_; have f4_ := f1_.symm; have f5_ := f3_.symm; clear f1_ f2_ f3_; subst f4_; subst f5_))
                                  refine hK.out _ _ ⟨(blk_cell BK223.out 0).trans rfl, (blk_cell BK223.out 1).trans rfl⟩ (fun hHeld => ?_)
                                  clear hK K
                                  refine norm_ (a' := ?_) ?_ ?_
                                  rotate_left
                                  · show Act.put _ (some 44) _ = _
                                    simp only [Act.put, List.setIfInBounds_toArray, List.set_cons_zero, List.set_cons_succ, i64_w, i32_w]
                                    rfl
                                  refine pure_ (i := 6) (N := some 47) (v := ?_) (a' := ?_) #[true, true, true, true, true, true, true, true, false] rfl rfl (any_of HT_.out (by kernel_rfl)) (fun _ _ _ h => h) (Or.inl ⟨by rfl, ?_⟩) ?_ ?_
                                  rotate_left
                                  · intro w'
                                    go_simp
                                    with_reducible rfl
                                  rotate_left
                                  · simp only [Act.put, List.setIfInBounds_toArray, List.set_cons_zero, List.set_cons_succ, i64_w, i32_w]
                                    rfl
                                  exact norm_ (by simp only [putAll, Act.put, List.setIfInBounds_toArray, List.set_cons_zero, List.set_cons_succ]) (hCont (v240, .slice Ao59 y242.length co59, gb245) _ ⟨hHeld, (by (with_reducible repeat (first | apply Kd.N_alloc | apply Kd.N_drewN | apply Kd.N_drew)); exact HO244.out), (by (with_reducible repeat (first | apply Kd.V_alloc | apply Kd.V_drewN | apply Kd.V_drew)); exact Kd.V_mono HO_15.out (fun _ hk => ⟨hk.1.1, ⟨hk.2, ⟨hk.1.2.1, hk.1.2.2⟩⟩⟩)), (by (with_reducible repeat (first | apply Kd.V_alloc | apply Kd.V_drewN | apply Kd.V_drew)); exact Kd.V_mono HO_224000.out (fun _ hk => ⟨hk.1.1, ⟨hk.2, ⟨hk.1.2.1, hk.1.2.2⟩⟩⟩)), (by (with_reducible repeat (first | apply Kd.V_alloc | apply Kd.V_drewN | apply Kd.V_drew)); exact Kd.V_mono HO_224001.out (fun _ hk => ⟨hk.1.1, ⟨hk.2, ⟨hk.1.2.1, hk.1.2.2⟩⟩⟩)), (by (with_reducible repeat (first | refine blk_drewN ?_ _ | refine blk_drew ?_ | refine blk_alloc ?_ _)); exact BK223.out), (by (with_reducible repeat (first | refine blk_drewN ?_ _ | refine blk_drew ?_ | refine blk_alloc ?_ _)); exact BK245.out), GW245.out, GE245.out, NB223_245.out, NB245_223.out, (by repeat (first | (with_reducible first | exact HB.out | apply below_alloc | apply pw_below_drewN | apply below_drew1 | refine below_set ?_ GE223.out | refine below_set ?_ GE245.out) | exact HB.out))⟩)
                              · skip
                                refine box_step ?hg (N := 8) ?hd (cs := #[.slice none 0 0, .slice none 0 0]) (t := 25) ?hr ?_; (case hd => rfl); (case hg => rfl); (case hr => first | (go_simp; done) | (go_simp; rfl))
                                intro gb245 hg w55 hbox hb
                                have n0_ := Aside0.mk (Kd.V_below (Kd.V_elderB (by (with_reducible repeat (first | apply Kd.V_alloc | apply Kd.V_drewN | apply Kd.V_drew)); exact HO_15.out) gb245 (Nat.le_of_eq hg.symm)) hb)
                                have n1_ := Aside0.mk (Kd.V_below (Kd.V_elderB (by (with_reducible repeat (first | apply Kd.V_alloc | apply Kd.V_drewN | apply Kd.V_drew)); exact HO_224000.out) gb245 (Nat.le_of_eq hg.symm)) hb)
                                have n2_ := Aside0.mk (Kd.V_below (Kd.V_elderB (by (with_reducible repeat (first | apply Kd.V_alloc | apply Kd.V_drewN | apply Kd.V_drew)); exact HO_224001.out) gb245 (Nat.le_of_eq hg.symm)) hb)
                                have n3_ := Aside0.mk (blk_below (g := gb223) (o := .cells #[.slice A0_0 l0_0.length c0_0, .slice A0_1 l0_1.length c0_1] 25 (0, 0)) (by (with_reducible repeat (first | refine blk_drewN ?_ _ | refine blk_drew ?_ | refine blk_alloc ?_ _)); exact BK223.out) hb)
                                have n4_ := Aside0.mk (below_step (by repeat (first | (with_reducible first | exact HB.out | apply below_alloc | apply pw_below_drewN | apply below_drew1 | refine below_set ?_ GE223.out) | exact HB.out)) hb)
                                have n5_ := Aside0.mk (hbox)
                                have n6_ := Aside0.mk ((by rw [hg]; exact (below_size (by repeat (first | (with_reducible first | exact HB.out | apply below_alloc | apply pw_below_drewN | apply below_drew1 | refine below_set ?_ GE223.out) | exact HB.out))) : w.heap.size ≤ gb245))
                                have n7_ := Aside0.mk ((by rw [hg]; exact (below_size (by repeat (first | (with_reducible first | exact HB.out | apply below_alloc | apply pw_below_drewN | apply below_drew1 | refine below_set ?_ GE223.out) | exact HB.out))) : w.heap.size ≤ gb245))
                                have n8_ := Aside0.mk ((by rw [hg]; exact Nat.ne_of_lt (blk_lt (g := gb223) (o := .cells #[.slice A0_0 l0_0.length c0_0, .slice A0_1 l0_1.length c0_1] 25 (0, 0)) (by (with_reducible repeat (first | refine blk_drewN ?_ _ | refine blk_drew ?_ | refine blk_alloc ?_ _)); exact BK223.out)) : gb223 ≠ gb245))
                                have n9_ := Aside0.mk ((by rw [hg]; exact Nat.ne_of_gt (blk_lt (g := gb223) (o := .cells #[.slice A0_0 l0_0.length c0_0, .slice A0_1 l0_1.length c0_1] 25 (0, 0)) (by (with_reducible repeat (first | refine blk_drewN ?_ _ | refine blk_drew ?_ | refine blk_alloc ?_ _)); exact BK223.out)) : gb245 ≠ gb223))
                                clear HO_15
                                clear HO_224000
                                clear HO_224001
                                clear BK223
                                clear HB
                                have HO_15 := n0_
                                have HO_224000 := n1_
                                have HO_224001 := n2_
                                have BK223 := n3_
                                have HB := n4_
                                have BK245 := n5_
                                have GW245 := n6_
                                have GE245 := n7_
                                have NB223_245 := n8_
                                have NB245_223 := n9_
                                clear n0_ n1_ n2_ n3_ n4_ n5_ n6_ n7_ n8_ n9_
                                clear hb hbox hg
                                refine hK.out _ _ ⟨(blk_cell BK223.out 0).trans rfl, (blk_cell BK223.out 1).trans rfl⟩ (fun hHeld => ?_)
                                clear hK K
                                refine norm_ (a' := ?_) ?_ ?_
                                rotate_left
                                · show Act.put _ (some 8) _ = _
                                  simp only [Act.put, List.setIfInBounds_toArray, List.set_cons_zero, List.set_cons_succ, i64_w, i32_w]
                                  rfl
                                refine one_ (i := 0) (N := some 41) #[true, true, true, false, true, true, false, true, false] rfl rfl (one_of HT_.out (by kernel_rfl)) (by decide) (fun K hK => ?_)
                                refine Kd.N_lit_step k44 _ 44 ?hg (N' := 41) ?hd (xs := ([] : List (S44))) (inner := []) (ok := (fun k_ => ((P0_0_ k_ ∨ P0_1_ k_) ∨ w.heap.size ≤ k_) ∧ k_ ≠ gb223 ∧ k_ ≠ gb245)) (okp := (fun k_ => ((P0_0_ k_ ∨ P0_1_ k_) ∨ w.heap.size ≤ k_) ∧ k_ ≠ gb223 ∧ k_ ≠ gb245)) ?hr ?hp (fun _ hk => hk) ((show ∀ k_, w55.heap.size ≤ k_ → (fun k_ => ((P0_0_ k_ ∨ P0_1_ k_) ∨ w.heap.size ≤ k_) ∧ k_ ≠ gb223 ∧ k_ ≠ gb245) k_ from fun k_ hk => ⟨(.inr (Nat.le_trans (below_size (by repeat (first | (with_reducible first | exact HB.out | apply below_alloc | apply pw_below_drewN | apply below_drew1 | refine below_set ?_ GE223.out | refine below_set ?_ GE245.out) | exact HB.out))) hk)), Kd.freshB (g := gb223) (o := .cells #[.slice A0_0 l0_0.length c0_0, .slice A0_1 l0_1.length c0_1] 25 (0, 0)) (by (with_reducible repeat (first | refine blk_drewN ?_ _ | refine blk_drew ?_ | refine blk_alloc ?_ _)); exact BK223.out) k_ hk, Kd.freshB (g := gb245) (o := .cells #[.slice none 0 0, .slice none 0 0] 25 (0, 0)) (by (with_reducible repeat (first | refine blk_drewN ?_ _ | refine blk_drew ?_ | refine blk_alloc ?_ _)); exact BK245.out) k_ hk⟩) _ (Nat.le_refl _)) (Below.refl _ _) (Nat.le_refl _) (by simp) ?_; (case hd => rfl); (case hg => rfl); (case hr => first | (go_simp; done) | (go_simp; rfl)); (case hp => exact (Reps.none _ _))
                                intro v240 w56 ho57 hb hg_ hnew_
                                clear hg_ hnew_
                                (first | rw [← Ny239.out] at ho57 | (simp only [Int.reduceToNat] at ho57; rw [← Ny239.out] at ho57))
                                have n0_ := Aside0.mk (Kd.V_elder' (by (with_reducible repeat (first | apply Kd.V_alloc | apply Kd.V_drewN | apply Kd.V_drew)); exact HO_15.out) (by first | exact Kd.N_base ho57 | exact Kd.S_base ho57) hb)
                                have n1_ := Aside0.mk (Kd.V_elder' (by (with_reducible repeat (first | apply Kd.V_alloc | apply Kd.V_drewN | apply Kd.V_drew)); exact HO_224000.out) (by first | exact Kd.N_base ho57 | exact Kd.S_base ho57) hb)
                                have n2_ := Aside0.mk (Kd.V_elder' (by (with_reducible repeat (first | apply Kd.V_alloc | apply Kd.V_drewN | apply Kd.V_drew)); exact HO_224001.out) (by first | exact Kd.N_base ho57 | exact Kd.S_base ho57) hb)
                                have n3_ := Aside0.mk (Kd.N_lower ho57 (below_size (by repeat (first | (with_reducible first | exact HB.out | apply below_alloc | apply pw_below_drewN | apply below_drew1 | refine below_set ?_ GE223.out | refine below_set ?_ GE245.out) | exact HB.out))))
                                have n4_ := Aside0.mk (blk_below (g := gb223) (o := .cells #[.slice A0_0 l0_0.length c0_0, .slice A0_1 l0_1.length c0_1] 25 (0, 0)) (by (with_reducible repeat (first | refine blk_drewN ?_ _ | refine blk_drew ?_ | refine blk_alloc ?_ _)); exact BK223.out) hb)
                                have n5_ := Aside0.mk (blk_below (g := gb245) (o := .cells #[.slice none 0 0, .slice none 0 0] 25 (0, 0)) (by (with_reducible repeat (first | refine blk_drewN ?_ _ | refine blk_drew ?_ | refine blk_alloc ?_ _)); exact BK245.out) hb)
                                have n6_ := Aside0.mk (below_step (by repeat (first | (with_reducible first | exact HB.out | apply below_alloc | apply pw_below_drewN | apply below_drew1 | refine below_set ?_ GE223.out | refine below_set ?_ GE245.out) | exact HB.out)) hb)
                                clear HO_15
                                clear HO_224000
                                clear HO_224001
                                clear BK223
                                clear BK245
                                clear HB
                                have HO_15 := n0_
                                have HO_224000 := n1_
                                have HO_224001 := n2_
                                have HO241 := n3_
                                have BK223 := n4_
                                have BK245 := n5_
                                have HB := n6_
                                clear n0_ n1_ n2_ n3_ n4_ n5_ n6_
                                clear hb ho57
                                refine hK.out _ _ ⟨(blk_cell BK223.out 0).trans rfl, (blk_cell BK223.out 1).trans rfl⟩ (fun hHeld => ?_)
                                clear hK K
                                refine norm_ (a' := ?_) ?_ ?_
                                rotate_left
                                · show Act.put _ (some 41) _ = _
                                  simp only [Act.put, List.setIfInBounds_toArray, List.set_cons_zero, List.set_cons_succ, i64_w, i32_w]
                                  rfl
                                refine one_ (i := 3) (N := some 44) #[true, true, true, true, true, true, false, true, false] rfl rfl (one_of HT_.out (by kernel_rfl)) (by decide) (fun K hK => ?_)
                                refine Kd.N_append_rows_step k44 (w0 := w) w.heap.size (by rfl) (.tmp 41) (.tmp 43) 22 44 (.agg #[(.string ⟨#[]⟩), (.slice none 0 0), (.slice none 0 0), (.bool false), (.bool false)]) 72 rfl Tryd.underlying22 info44 rfl (by decide) (by omega) v240 y239 l0_0 _ _ _ (fun k_ => ((P0_0_ k_ ∨ P0_1_ k_) ∨ w.heap.size ≤ k_) ∧ k_ ≠ gb223 ∧ k_ ≠ gb245) (fun k_ => ((fun k_ => ((P0_0_ k_ ∨ P0_1_ k_) ∨ w.heap.size ≤ k_) ∧ k_ ≠ gb223 ∧ k_ ≠ gb245)) k_ ∧ some k_ ≠ (v240 : Value).ownBlock) rfl rfl ?aO ?aR (fun _ hk => hk) ?aF ?aB ?aS ?aL ?_
                                (case aR => exact (by skip; exact Kd.V_F (Kd.V_mono (ok' := (fun k_ => ((fun k_ => ((P0_0_ k_ ∨ P0_1_ k_) ∨ w.heap.size ≤ k_) ∧ k_ ≠ gb223 ∧ k_ ≠ gb245)) k_ ∧ some k_ ≠ (v240 : Value).ownBlock)) (HO_224000.out) (fun k_ hk => ⟨⟨hk.1.1.1, ⟨hk.1.1.2, hk.1.2⟩⟩, hk.2⟩))))
                                (case aB => exact (by repeat (first | (with_reducible first | exact HB.out | apply below_alloc | apply pw_below_drewN | apply below_drew1 | refine below_set ?_ GE223.out | refine below_set ?_ GE245.out) | exact HB.out)))
                                (case aF => exact (fun k_ hk => ⟨(.inr (Nat.le_trans (below_size (by repeat (first | (with_reducible first | exact HB.out | apply below_alloc | apply pw_below_drewN | apply below_drew1 | refine below_set ?_ GE223.out | refine below_set ?_ GE245.out) | exact HB.out))) hk)), Kd.freshB (g := gb223) (o := .cells #[.slice A0_0 l0_0.length c0_0, .slice A0_1 l0_1.length c0_1] 25 (0, 0)) (by (with_reducible repeat (first | refine blk_drewN ?_ _ | refine blk_drew ?_ | refine blk_alloc ?_ _)); exact BK223.out) k_ hk, Kd.freshB (g := gb245) (o := .cells #[.slice none 0 0, .slice none 0 0] 25 (0, 0)) (by (with_reducible repeat (first | refine blk_drewN ?_ _ | refine blk_drew ?_ | refine blk_alloc ?_ _)); exact BK245.out) k_ hk⟩))
                                (case aO => exact (by (with_reducible repeat (first | apply Kd.N_alloc | apply Kd.N_drewN | apply Kd.N_drew)); exact HO241.out))
                                (case aS => exact (below_size (by repeat (first | (with_reducible first | exact HB.out | apply below_alloc | apply pw_below_drewN | apply below_drew1 | refine below_set ?_ GE223.out | refine below_set ?_ GE245.out) | exact HB.out))))
                                (case aL => have := LMc45.out; omega)
                                intro v243 w58 ho hb hg hat
                                rw [← Ny242.out] at ho
                                have n0_ := Aside0.mk (Kd.V_afterv (ok := (fun k_ => ((P0_0_ k_ ∨ P0_1_ k_) ∨ w.heap.size ≤ k_) ∧ k_ ≠ gb223 ∧ k_ ≠ gb245)) (by (with_reducible repeat (first | apply Kd.V_alloc | apply Kd.V_drewN | apply Kd.V_drew)); exact Kd.V_mono HO_15.out (fun _ hk => ⟨⟨hk.1.1.1, ⟨hk.1.1.2, hk.1.2⟩⟩, hk.2⟩)) hg hat)
                                have n1_ := Aside0.mk (Kd.V_afterv (ok := (fun k_ => ((P0_0_ k_ ∨ P0_1_ k_) ∨ w.heap.size ≤ k_) ∧ k_ ≠ gb223 ∧ k_ ≠ gb245)) (by (with_reducible repeat (first | apply Kd.V_alloc | apply Kd.V_drewN | apply Kd.V_drew)); exact Kd.V_mono HO_224000.out (fun _ hk => ⟨⟨hk.1.1.1, ⟨hk.1.1.2, hk.1.2⟩⟩, hk.2⟩)) hg hat)
                                have n2_ := Aside0.mk (Kd.V_afterv (ok := (fun k_ => ((P0_0_ k_ ∨ P0_1_ k_) ∨ w.heap.size ≤ k_) ∧ k_ ≠ gb223 ∧ k_ ≠ gb245)) (by (with_reducible repeat (first | apply Kd.V_alloc | apply Kd.V_drewN | apply Kd.V_drew)); exact Kd.V_mono HO_224001.out (fun _ hk => ⟨⟨hk.1.1.1, ⟨hk.1.1.2, hk.1.2⟩⟩, hk.2⟩)) hg hat)
                                have n3_ := Aside0.mk (blk_grown (g := gb223) (o := .cells #[.slice A0_0 l0_0.length c0_0, .slice A0_1 l0_1.length c0_1] 25 (0, 0)) (by (with_reducible repeat (first | refine blk_drewN ?_ _ | refine blk_drew ?_ | refine blk_alloc ?_ _)); exact BK223.out) hg (Kd.N_ne HO241.out BK223.out (by decide)))
                                have n4_ := Aside0.mk (blk_grown (g := gb245) (o := .cells #[.slice none 0 0, .slice none 0 0] 25 (0, 0)) (by (with_reducible repeat (first | refine blk_drewN ?_ _ | refine blk_drew ?_ | refine blk_alloc ?_ _)); exact BK245.out) hg (Kd.N_ne HO241.out BK245.out (by decide)))
                                have n5_ := Aside0.mk (hb)
                                have n6_ := Aside0.mk (ho)
                                clear HO_15
                                clear HO_224000
                                clear HO_224001
                                clear BK223
                                clear BK245
                                clear HB
                                clear HO241
                                have HO_15 := n0_
                                have HO_224000 := n1_
                                have HO_224001 := n2_
                                have BK223 := n3_
                                have BK245 := n4_
                                have HB := n5_
                                have HO244 := n6_
                                clear n0_ n1_ n2_ n3_ n4_ n5_ n6_
                                clear ho hb hg hat
                                obtain ⟨Ao59, co59, eo59⟩ := Kd.N_slice HO244.out
                                (first | subst eo59 | (injection eo59 with f1_ f2_ f3_; have f4_ := f1_.symm; have f5_ := f3_.symm; clear f1_ f2_ f3_; subst f4_; subst f5_))
                                refine hK.out _ _ ⟨(blk_cell BK223.out 0).trans rfl, (blk_cell BK223.out 1).trans rfl⟩ (fun hHeld => ?_)
                                clear hK K
                                refine norm_ (a' := ?_) ?_ ?_
                                rotate_left
                                · show Act.put _ (some 44) _ = _
                                  simp only [Act.put, List.setIfInBounds_toArray, List.set_cons_zero, List.set_cons_succ, i64_w, i32_w]
                                  rfl
                                refine pure_ (i := 6) (N := some 47) (v := ?_) (a' := ?_) #[true, true, true, true, true, true, true, true, false] rfl rfl (any_of HT_.out (by kernel_rfl)) (fun _ _ _ h => h) (Or.inl ⟨by rfl, ?_⟩) ?_ ?_
                                rotate_left
                                · intro w'
                                  go_simp
                                  with_reducible rfl
                                rotate_left
                                · simp only [Act.put, List.setIfInBounds_toArray, List.set_cons_zero, List.set_cons_succ, i64_w, i32_w]
                                  rfl
                                exact norm_ (by simp only [putAll, Act.put, List.setIfInBounds_toArray, List.set_cons_zero, List.set_cons_succ]) (hCont (v240, .slice Ao59 y242.length co59, gb245) _ ⟨hHeld, (by (with_reducible repeat (first | apply Kd.N_alloc | apply Kd.N_drewN | apply Kd.N_drew)); exact HO244.out), (by (with_reducible repeat (first | apply Kd.V_alloc | apply Kd.V_drewN | apply Kd.V_drew)); exact Kd.V_mono HO_15.out (fun _ hk => ⟨hk.1.1, ⟨hk.2, ⟨hk.1.2.1, hk.1.2.2⟩⟩⟩)), (by (with_reducible repeat (first | apply Kd.V_alloc | apply Kd.V_drewN | apply Kd.V_drew)); exact Kd.V_mono HO_224000.out (fun _ hk => ⟨hk.1.1, ⟨hk.2, ⟨hk.1.2.1, hk.1.2.2⟩⟩⟩)), (by (with_reducible repeat (first | apply Kd.V_alloc | apply Kd.V_drewN | apply Kd.V_drew)); exact Kd.V_mono HO_224001.out (fun _ hk => ⟨hk.1.1, ⟨hk.2, ⟨hk.1.2.1, hk.1.2.2⟩⟩⟩)), (by (with_reducible repeat (first | refine blk_drewN ?_ _ | refine blk_drew ?_ | refine blk_alloc ?_ _)); exact BK223.out), (by (with_reducible repeat (first | refine blk_drewN ?_ _ | refine blk_drew ?_ | refine blk_alloc ?_ _)); exact BK245.out), GW245.out, GE245.out, NB223_245.out, NB245_223.out, (by repeat (first | (with_reducible first | exact HB.out | apply below_alloc | apply pw_below_drewN | apply below_drew1 | refine below_set ?_ GE223.out | refine below_set ?_ GE245.out) | exact HB.out))⟩)
                            rintro ⟨v240, v243, gb245⟩ w60 ⟨hS_, h0_, h1_, h2_, h3_, h4_, h5_, h6_, h7_, h8_, h9_, h10_⟩
                            have n0_ : Aside0 (Kd.N k44 44 w60 w.heap.size (fun k_ => ((P0_0_ k_ ∨ P0_1_ k_) ∨ w.heap.size ≤ k_) ∧ k_ ≠ gb223 ∧ k_ ≠ gb245) v243 y242) := ⟨h0_⟩
                            have n1_ : Aside0 (Kd.V k44 44 w60 w.heap.size (fun k_ => ((P0_0_ k_ ∨ P0_1_ k_) ∨ w.heap.size ≤ k_) ∧ some k_ ≠ (v243 : Value).ownBlock ∧ k_ ≠ gb223 ∧ k_ ≠ gb245) (.slice A0_0 l0_0.length c0_0) l0_0) := ⟨h1_⟩
                            have n2_ : Aside0 (Kd.V k44 44 w60 w.heap.size (fun k_ => ((P0_0_ k_ ∨ P0_1_ k_) ∨ w.heap.size ≤ k_) ∧ some k_ ≠ (v243 : Value).ownBlock ∧ k_ ≠ gb223 ∧ k_ ≠ gb245) (.slice A0_0 l0_0.length c0_0) l0_0) := ⟨h2_⟩
                            have n3_ : Aside0 (Kd.V Kd.bool 4 w60 w.heap.size (fun k_ => ((P0_0_ k_ ∨ P0_1_ k_) ∨ w.heap.size ≤ k_) ∧ some k_ ≠ (v243 : Value).ownBlock ∧ k_ ≠ gb223 ∧ k_ ≠ gb245) (.slice A0_1 l0_1.length c0_1) l0_1) := ⟨h3_⟩
                            have n4_ : Aside0 (w60.heap[gb223]? = some (.cells #[.slice A0_0 l0_0.length c0_0, .slice A0_1 l0_1.length c0_1] 25 (0, 0))) := ⟨h4_⟩
                            have n5_ : Aside0 (w60.heap[gb245]? = some (.cells #[.slice none 0 0, .slice none 0 0] 25 (0, 0))) := ⟨h5_⟩
                            have n6_ : Aside0 (w.heap.size ≤ gb245) := ⟨h6_⟩
                            have n7_ : Aside0 (w.heap.size ≤ gb245) := ⟨h7_⟩
                            have n8_ : Aside0 (gb223 ≠ gb245) := ⟨h8_⟩
                            have n9_ : Aside0 (gb245 ≠ gb223) := ⟨h9_⟩
                            have n10_ : Aside0 (Below w.heap.size w w60) := ⟨h10_⟩
                            clear HO_15
                            clear HO_224000
                            clear HO_224001
                            clear BK223
                            clear HB
                            clear h0_ h1_ h2_ h3_ h4_ h5_ h6_ h7_ h8_ h9_ h10_
                            have HO244 := n0_
                            have HO_15 := n1_
                            have HO_224000 := n2_
                            have HO_224001 := n3_
                            have BK223 := n4_
                            have BK245 := n5_
                            have GW245 := n6_
                            have GE245 := n7_
                            have NB223_245 := n8_
                            have NB245_223 := n9_
                            have HB := n10_
                            clear n0_ n1_ n2_ n3_ n4_ n5_ n6_ n7_ n8_ n9_ n10_
                            have hHeld : w60.cell? ⟨gb223, 0, none⟩ = some (.slice A0_0 l0_0.length c0_0) ∧ w60.cell? ⟨gb223, 1, none⟩ = some (.slice A0_1 l0_1.length c0_1) := hS_
                            obtain ⟨Ao61, co61, eo61⟩ := Kd.N_slice HO244.out
                            (first | subst eo61 | (injection eo61 with f1_ f2_ f3_; have f4_ := f1_.symm; have f5_ := f3_.symm; clear f1_ f2_ f3_; subst f4_; subst f5_))
                            refine norm_ (a' := ?_) ?_ ?_
                            rotate_left
                            · simp only [putAll, Act.put, List.setIfInBounds_toArray, List.set_cons_zero, List.set_cons_succ]
                              rfl
                            refine one_ (i := 8) (N := none) #[true, true, true, true, true, true, true, true, true] rfl rfl (one_of HT_.out (by kernel_rfl)) (by decide) (fun K hK => ?_)
                            have hs62 : w60.cell? ⟨gb245, 0, none⟩ = some (.slice none 0 0) := (blk_cell BK245.out 0).trans rfl
                            have hfs62 := blk_frozen BK245.out 0
                            have hns62_0 := NB223_245.out
                            have hms62_0 := NB245_223.out
                            have hs63 : w60.cell? ⟨gb245, 1, none⟩ = some (.slice none 0 0) := (blk_cell BK245.out 1).trans rfl
                            have hfs63 := blk_frozen BK245.out 1
                            have hns63_0 := NB223_245.out
                            have hms63_0 := NB245_223.out
                            refine skip_ (w1 := ?_) (by rfl) rfl ?_ ?_
                            rotate_left
                            · go_simp
                              rfl
                            refine hK.out _ _ ⟨((cell_far (p := ⟨gb245, _, none⟩) NB223_245.out _).trans (((cell_far (p := ⟨gb245, _, none⟩) NB223_245.out _).trans (hHeld.1)))), ((cell_far (p := ⟨gb245, _, none⟩) NB223_245.out _).trans (((cell_far (p := ⟨gb245, _, none⟩) NB223_245.out _).trans (hHeld.2))))⟩ (fun hHeld => ?_)
                            clear hK K
                            refine done_ (done_of HT_.out (by kernel_rfl)) ?_
                            try go_wp2
                            have n0_ : Aside0 (Kd.V k44 44 ((w60.setCell ⟨gb245, 0, none⟩ (.slice Ao61 y242.length co61)).setCell ⟨gb245, 1, none⟩ (.slice A0_1 l0_1.length c0_1)) w.heap.size (fun k_ => ((P0_0_ k_ ∨ P0_1_ k_) ∨ w.heap.size ≤ k_) ∧ some k_ ≠ (.slice Ao61 y242.length co61 : Value).ownBlock ∧ k_ ≠ gb223 ∧ k_ ≠ gb245) (.slice A0_0 l0_0.length c0_0) l0_0) := ⟨by (with_reducible repeat (first | apply Kd.V_alloc | apply Kd.V_drewN | apply Kd.V_drew)); exact Kd.V_mono (Kd.V_far (p := ⟨gb245, 1, none⟩) (Kd.V_far (p := ⟨gb245, 0, none⟩) (Kd.V_mono HO_15.out (fun k_ hk => (⟨hk, hk.2.2.2⟩ : _ ∧ k_ ≠ gb245))) (fun _ hk => hk.2) (.slice Ao61 y242.length co61)) (fun _ hk => hk.2) (.slice A0_1 l0_1.length c0_1)) (fun _ hk => ⟨hk.1.1, ⟨hk.1.2.1, ⟨hk.1.2.2.1, hk.1.2.2.2⟩⟩⟩)⟩
                            have n1_ : Aside0 (Kd.V k44 44 ((w60.setCell ⟨gb245, 0, none⟩ (.slice Ao61 y242.length co61)).setCell ⟨gb245, 1, none⟩ (.slice A0_1 l0_1.length c0_1)) w.heap.size (fun k_ => ((P0_0_ k_ ∨ P0_1_ k_) ∨ w.heap.size ≤ k_) ∧ some k_ ≠ (.slice Ao61 y242.length co61 : Value).ownBlock ∧ k_ ≠ gb223 ∧ k_ ≠ gb245) (.slice A0_0 l0_0.length c0_0) l0_0) := ⟨by (with_reducible repeat (first | apply Kd.V_alloc | apply Kd.V_drewN | apply Kd.V_drew)); exact Kd.V_mono (Kd.V_far (p := ⟨gb245, 1, none⟩) (Kd.V_far (p := ⟨gb245, 0, none⟩) (Kd.V_mono HO_224000.out (fun k_ hk => (⟨hk, hk.2.2.2⟩ : _ ∧ k_ ≠ gb245))) (fun _ hk => hk.2) (.slice Ao61 y242.length co61)) (fun _ hk => hk.2) (.slice A0_1 l0_1.length c0_1)) (fun _ hk => ⟨hk.1.1, ⟨hk.1.2.1, ⟨hk.1.2.2.1, hk.1.2.2.2⟩⟩⟩)⟩
                            have n2_ : Aside0 (Kd.V Kd.bool 4 ((w60.setCell ⟨gb245, 0, none⟩ (.slice Ao61 y242.length co61)).setCell ⟨gb245, 1, none⟩ (.slice A0_1 l0_1.length c0_1)) w.heap.size (fun k_ => ((P0_0_ k_ ∨ P0_1_ k_) ∨ w.heap.size ≤ k_) ∧ some k_ ≠ (.slice Ao61 y242.length co61 : Value).ownBlock ∧ k_ ≠ gb223 ∧ k_ ≠ gb245) (.slice A0_1 l0_1.length c0_1) l0_1) := ⟨by (with_reducible repeat (first | apply Kd.V_alloc | apply Kd.V_drewN | apply Kd.V_drew)); exact Kd.V_mono (Kd.V_far (p := ⟨gb245, 1, none⟩) (Kd.V_far (p := ⟨gb245, 0, none⟩) (Kd.V_mono HO_224001.out (fun k_ hk => (⟨hk, hk.2.2.2⟩ : _ ∧ k_ ≠ gb245))) (fun _ hk => hk.2) (.slice Ao61 y242.length co61)) (fun _ hk => hk.2) (.slice A0_1 l0_1.length c0_1)) (fun _ hk => ⟨hk.1.1, ⟨hk.1.2.1, ⟨hk.1.2.2.1, hk.1.2.2.2⟩⟩⟩)⟩
                            have n3_ : Aside0 (Kd.N k44 44 ((w60.setCell ⟨gb245, 0, none⟩ (.slice Ao61 y242.length co61)).setCell ⟨gb245, 1, none⟩ (.slice A0_1 l0_1.length c0_1)) w.heap.size (fun k_ => ((P0_0_ k_ ∨ P0_1_ k_) ∨ w.heap.size ≤ k_) ∧ k_ ≠ gb223 ∧ k_ ≠ gb245) (.slice Ao61 y242.length co61) y242) := ⟨by (with_reducible repeat (first | apply Kd.N_alloc | apply Kd.N_drewN | apply Kd.N_drew)); exact Kd.N_mono (Kd.N_far (p := ⟨gb245, 1, none⟩) (Kd.N_far (p := ⟨gb245, 0, none⟩) (Kd.N_mono HO244.out (fun k_ hk => (⟨hk, hk.2.2⟩ : _ ∧ k_ ≠ gb245))) (fun _ hk => hk.2) (.slice Ao61 y242.length co61)) (fun _ hk => hk.2) (.slice A0_1 l0_1.length c0_1)) (fun _ hk => ⟨hk.1.1, ⟨hk.1.2.1, hk.1.2.2⟩⟩)⟩
                            have n4_ : Aside0 (((w60.setCell ⟨gb245, 0, none⟩ (.slice Ao61 y242.length co61)).setCell ⟨gb245, 1, none⟩ (.slice A0_1 l0_1.length c0_1)).heap[gb223]? = some (.cells #[.slice A0_0 l0_0.length c0_0, .slice A0_1 l0_1.length c0_1] 25 (0, 0))) := ⟨by (with_reducible repeat (first | refine blk_drewN ?_ _ | refine blk_drew ?_ | refine blk_alloc ?_ _)); refine blk_far ?_ NB223_245.out _; (with_reducible repeat (first | refine blk_drewN ?_ _ | refine blk_drew ?_ | refine blk_alloc ?_ _)); refine blk_far ?_ NB223_245.out _; (with_reducible repeat (first | refine blk_drewN ?_ _ | refine blk_drew ?_ | refine blk_alloc ?_ _)); exact BK223.out⟩
                            have n5_ : Aside0 (((w60.setCell ⟨gb245, 0, none⟩ (.slice Ao61 y242.length co61)).setCell ⟨gb245, 1, none⟩ (.slice A0_1 l0_1.length c0_1)).heap[gb245]? = some (.cells #[.slice Ao61 y242.length co61, .slice A0_1 l0_1.length c0_1] 25 (0, 0))) := ⟨by (with_reducible repeat (first | refine blk_drewN ?_ _ | refine blk_drew ?_ | refine blk_alloc ?_ _)); refine blk_put (cs := #[.slice Ao61 y242.length co61, .slice none 0 0]) ?_ 1 _ rfl; (with_reducible repeat (first | refine blk_drewN ?_ _ | refine blk_drew ?_ | refine blk_alloc ?_ _)); refine blk_put (cs := #[.slice none 0 0, .slice none 0 0]) ?_ 0 _ rfl; (with_reducible repeat (first | refine blk_drewN ?_ _ | refine blk_drew ?_ | refine blk_alloc ?_ _)); exact BK245.out⟩
                            have n6_ : Aside0 (Below w.heap.size w ((w60.setCell ⟨gb245, 0, none⟩ (.slice Ao61 y242.length co61)).setCell ⟨gb245, 1, none⟩ (.slice A0_1 l0_1.length c0_1))) := ⟨by repeat (first | (with_reducible first | exact HB.out | apply below_alloc | apply pw_below_drewN | apply below_drew1 | refine below_set ?_ GE223.out | refine below_set ?_ GE245.out) | exact HB.out)⟩
                            (try clear HO_15)
                            (try clear HO_224000)
                            (try clear HO_224001)
                            (try clear HO244)
                            (try clear BK223)
                            (try clear BK245)
                            (try clear HB)
                            generalize ((w60.setCell ⟨gb245, 0, none⟩ (.slice Ao61 y242.length co61)).setCell ⟨gb245, 1, none⟩ (.slice A0_1 l0_1.length c0_1)) = w64 at n0_ n1_ n2_ n3_ n4_ n5_ n6_ ⊢
                            have HO_15 := n0_
                            have HO_224000 := n1_
                            have HO_224001 := n2_
                            have HO244 := n3_
                            have BK223 := n4_
                            have BK245 := n5_
                            have HB := n6_
                            clear n0_ n1_ n2_ n3_ n4_ n5_ n6_
                            have n0_ := Aside0.mk (Kd.V_drew HO_15.out)
                            have n1_ := Aside0.mk (Kd.V_drew HO_224000.out)
                            have n2_ := Aside0.mk (Kd.V_drew HO_224001.out)
                            have n3_ := Aside0.mk (Kd.N_drew HO244.out)
                            have n4_ := Aside0.mk (blk_drew BK223.out)
                            have n5_ := Aside0.mk (blk_drew BK245.out)
                            have n6_ := Aside0.mk (below_drew1 HB.out)
                            clear HO_15
                            clear HO_224000
                            clear HO_224001
                            clear HO244
                            clear BK223
                            clear BK245
                            clear HB
                            have HO_15 := n0_
                            have HO_224000 := n1_
                            have HO_224001 := n2_
                            have HO244 := n3_
                            have BK223 := n4_
                            have BK245 := n5_
                            have HB := n6_
                            clear n0_ n1_ n2_ n3_ n4_ n5_ n6_
                            have p249 : 0 ≤ (a1 : Int) := of_decide_eq_true (by first | (with_reducible assumption) | assumption)
                            have q249 : a1 < (y242.length : Int) := of_decide_eq_true (by first | (with_reducible assumption) | assumption)
                            obtain ⟨ad249, A249_1, c249_1, A249_2, c249_2, e249, hx249_0, hx249_1, hx249_2, hx249_3, hx249_4, hl249_1, hi249_1, hl249_2, hi249_2⟩ := at_T44 (Kd.N_reads' HO244.out).2.2 a1 p249 q249
                            cases e249
                            obtain ⟨ce249, hce249, hMe249, hcc249⟩ := Kd.N_get HO244.out z44 a1 p249 (by first | exact q249 | exact of_decide_eq_true (by first | (with_reducible assumption) | assumption) | (have e_ := (Kd.N_reads' HO244.out).1; omega))
                            obtain ⟨ua249_1, uc249_1, ua249_2, uc249_2, rfl, ul249_1, ge249_1, ul249_2, ge249_2⟩ := k44_openF hMe249
                            have hv249_1 := hcc249 1 _ rfl
                            rw [add_field _ _ 1 (by omega)] at hv249_1
                            replace hv249_1 := Option.some.inj (hv249_1.symm.trans hx249_1)
                            injection hv249_1 with hva_ hvn_ hvc_
                            rw [hva_] at ge249_1
                            rw [hvc_] at ul249_1
                            have HL249_1 := Aside0.mk (show Kd.V Kd.string 9 _ w.heap.size _ _ ((rd_T44 y242 a1).f1) from Kd.V_mk ul249_1 ge249_1)
                            clear hva_ hvn_ hvc_ ge249_1 ul249_1
                            have hv249_2 := hcc249 2 _ rfl
                            rw [add_field _ _ 2 (by omega)] at hv249_2
                            replace hv249_2 := Option.some.inj (hv249_2.symm.trans hx249_2)
                            injection hv249_2 with hva_ hvn_ hvc_
                            rw [hva_] at ge249_2
                            rw [hvc_] at ul249_2
                            have HL249_2 := Aside0.mk (show Kd.V Kd.string 9 _ w.heap.size _ _ ((rd_T44 y242 a1).f2) from Kd.V_mk ul249_2 ge249_2)
                            clear hva_ hvn_ hvc_ ge249_2 ul249_2
                            clear hcc249 hce249
                            have HR249_1 := Aside0.mk hi249_1
                            have HC249_1 := Aside0.mk hl249_1
                            clear hi249_1 hl249_1
                            have HR249_2 := Aside0.mk hi249_2
                            have HC249_2 := Aside0.mk hl249_2
                            clear hi249_2 hl249_2
                            replace p249 := eq_true p249
                            replace q249 := eq_true q249
                            refine start_ (n := 16) (S := fun w' => w'.cell? ⟨gb245, 0, none⟩ = some (.slice (some ad249) y242.length co61) ∧ w'.cell? ⟨gb245, 1, none⟩ = some (.slice A0_1 l0_1.length c0_1) ∧ w'.cell? (ad249.add ((a1).toNat * 5)) = some (.string ((rd_T44 y242 a1).f0)) ∧ w'.cell? ⟨(ad249.add ((a1).toNat * 5)).block, (ad249.add ((a1).toNat * 5)).off + 1, none⟩ = some (.slice A249_1 ((rd_T44 y242 a1).f1).length c249_1) ∧ w'.cell? ⟨(ad249.add ((a1).toNat * 5)).block, (ad249.add ((a1).toNat * 5)).off + 2, none⟩ = some (.slice A249_2 ((rd_T44 y242 a1).f2).length c249_2) ∧ w'.cell? ⟨(ad249.add ((a1).toNat * 5)).block, (ad249.add ((a1).toNat * 5)).off + 3, none⟩ = some (.bool ((rd_T44 y242 a1).f3)) ∧ w'.cell? ⟨(ad249.add ((a1).toNat * 5)).block, (ad249.add ((a1).toNat * 5)).off + 4, none⟩ = some (.bool ((rd_T44 y242 a1).f4))) (ds := [15]) #[false, false, false, false, false, false, false, false, false, false, false, false, false, false, false, false] (by kernel_rfl) rfl rfl ⟨(blk_cell BK245.out 0).trans rfl, (blk_cell BK245.out 1).trans rfl, hx249_0, hx249_1, hx249_2, hx249_3, hx249_4⟩ (fun hHeld => ?_); refine with_tabW scrimlaw09_SelectorWeighs.tab16 scrimlaw09_SelectorWeighs.bits16 (fun HT_ HW_ => ?_)
                            generalize w64.drew = w65 at HO_15 HO_224000 HO_224001 HO244 BK223 BK245 HB HL249_1 HL249_2 HR249_1 HR249_2 hx249_0 hx249_1 hx249_2 hx249_3 hx249_4 hHeld ⊢
                            refine pure_ (i := 0) (N := some 48) (v := ?_) (a' := ?_) #[true, false, false, false, false, false, false, false, false, false, false, false, false, false, false, false] rfl rfl (any_of HT_.out (by kernel_rfl)) (fun _ _ _ h => h) (Or.inl ⟨by rfl, ?_⟩) ?_ ?_
                            rotate_left
                            · intro w'
                              go_simp
                              with_reducible rfl
                            rotate_left
                            · simp only [Act.put, List.setIfInBounds_toArray, List.set_cons_zero, List.set_cons_succ, i64_w, i32_w]
                              rfl
                            refine pure_ (i := 2) (N := some 50) (v := ?_) (a' := ?_) #[true, false, true, false, false, false, false, false, false, false, false, false, false, false, false, false] rfl rfl (any_of HT_.out (by kernel_rfl)) (fun _ _ _ h => h) (Or.inl ⟨by rfl, ?_⟩) ?_ ?_
                            rotate_left
                            · intro w'
                              go_simp
                              with_reducible rfl
                            rotate_left
                            · simp only [Act.put, List.setIfInBounds_toArray, List.set_cons_zero, List.set_cons_succ, i64_w, i32_w]
                              rfl
                            refine pure_ (i := 4) (N := some 52) (v := ?_) (a' := ?_) #[true, false, true, false, true, false, false, false, false, false, false, false, false, false, false, false] rfl rfl (any_of HT_.out (by kernel_rfl)) (fun _ _ _ h => h) (Or.inl ⟨by rfl, ?_⟩) ?_ ?_
                            rotate_left
                            · intro w'
                              go_simp
                              with_reducible rfl
                            rotate_left
                            · simp only [Act.put, List.setIfInBounds_toArray, List.set_cons_zero, List.set_cons_succ, i64_w, i32_w]
                              rfl
                            refine pure_ (i := 6) (N := some 54) (v := ?_) (a' := ?_) #[true, false, true, false, true, false, true, false, false, false, false, false, false, false, false, false] rfl rfl (any_of HT_.out (by kernel_rfl)) (fun _ _ _ h => h) (Or.inl ⟨by rfl, ?_⟩) ?_ ?_
                            rotate_left
                            · intro w'
                              go_simp
                              with_reducible rfl
                            rotate_left
                            · simp only [Act.put, List.setIfInBounds_toArray, List.set_cons_zero, List.set_cons_succ, i64_w, i32_w]
                              rfl
                            refine take_ (i := 1) (N := some 49) (v := ?_) (a' := ?_) #[true, true, true, false, true, false, true, false, false, false, false, false, false, false, false, false] rfl rfl (take_ofW HT_.out HW_.out (by kernel_rfl)) (fun _ _ _ h => h) (Or.inl ⟨by rfl, ?_⟩) hHeld ?_ ?_
                            rotate_left
                            · rintro w' ⟨s0, s1, s2, s3, s4, s5, s6⟩
                              go_simp
                              with_reducible rfl
                            rotate_left
                            · simp only [Act.put, List.setIfInBounds_toArray, List.set_cons_zero, List.set_cons_succ, i64_w, i32_w]
                              rfl
                            refine take_ (i := 5) (N := some 53) (v := ?_) (a' := ?_) #[true, true, true, false, true, true, true, false, false, false, false, false, false, false, false, false] rfl rfl (take_ofW HT_.out HW_.out (by kernel_rfl)) (fun _ _ _ h => h) (Or.inl ⟨by rfl, ?_⟩) hHeld ?_ ?_
                            rotate_left
                            · rintro w' ⟨s0, s1, s2, s3, s4, s5, s6⟩
                              go_simp
                              with_reducible rfl
                            rotate_left
                            · simp only [Act.put, List.setIfInBounds_toArray, List.set_cons_zero, List.set_cons_succ, i64_w, i32_w]
                              rfl
                            refine pure_ (i := 7) (N := some 55) (v := ?_) (a' := ?_) #[true, true, true, false, true, true, true, true, false, false, false, false, false, false, false, false] rfl rfl (any_of HT_.out (by kernel_rfl)) (fun _ _ _ h => h) (Or.inl ⟨by rfl, ?_⟩) ?_ ?_
                            rotate_left
                            · intro w'
                              go_simp
                              with_reducible rfl
                            rotate_left
                            · simp only [Act.put, List.setIfInBounds_toArray, List.set_cons_zero, List.set_cons_succ, i64_w, i32_w]
                              rfl
                            refine pure_ (i := 8) (N := some 56) (v := ?_) (a' := ?_) #[true, true, true, false, true, true, true, true, true, false, false, false, false, false, false, false] rfl rfl (any_of HT_.out (by kernel_rfl)) (fun _ _ _ h => h) (Or.inl ⟨by rfl, ?_⟩) ?_ ?_
                            rotate_left
                            · intro w'
                              go_simp
                              with_reducible rfl
                            rotate_left
                            · simp only [Act.put, List.setIfInBounds_toArray, List.set_cons_zero, List.set_cons_succ, i64_w, i32_w]
                              rfl
                            refine take_ (i := 9) (N := some 57) (v := ?_) (a' := ?_) #[true, true, true, false, true, true, true, true, true, true, false, false, false, false, false, false] rfl rfl (take_ofW HT_.out HW_.out (by kernel_rfl)) (fun _ _ _ h => h) (Or.inl ⟨by rfl, ?_⟩) hHeld ?_ ?_
                            rotate_left
                            · rintro w' ⟨s0, s1, s2, s3, s4, s5, s6⟩
                              go_simp
                              with_reducible rfl
                            rotate_left
                            · simp only [Act.put, List.setIfInBounds_toArray, List.set_cons_zero, List.set_cons_succ, i64_w, i32_w]
                              rfl
                            refine join_ (σ := Value × Value × Value) 4 #[true, true, true, true, true, true, true, true, true, true, true, true, false, false, false, false] (fun s_ => [(51, s_.1), (58, s_.2.1), (59, s_.2.2)]) (fun s_ w' => (w'.cell? ⟨gb245, 0, none⟩ = some (.slice (some ad249) y242.length co61) ∧ w'.cell? ⟨gb245, 1, none⟩ = some (.slice A0_1 l0_1.length c0_1) ∧ w'.cell? (ad249.add ((a1).toNat * 5)) = some (.string ((rd_T44 y242 a1).f0)) ∧ w'.cell? ⟨(ad249.add ((a1).toNat * 5)).block, (ad249.add ((a1).toNat * 5)).off + 1, none⟩ = some (.slice A249_1 ((rd_T44 y242 a1).f1).length c249_1) ∧ w'.cell? ⟨(ad249.add ((a1).toNat * 5)).block, (ad249.add ((a1).toNat * 5)).off + 2, none⟩ = some (.slice A249_2 ((rd_T44 y242 a1).f2).length c249_2) ∧ w'.cell? ⟨(ad249.add ((a1).toNat * 5)).block, (ad249.add ((a1).toNat * 5)).off + 3, none⟩ = some (.bool ((rd_T44 y242 a1).f3)) ∧ w'.cell? ⟨(ad249.add ((a1).toNat * 5)).block, (ad249.add ((a1).toNat * 5)).off + 4, none⟩ = some (.bool ((rd_T44 y242 a1).f4))) ∧ (Kd.V Kd.string 9 w' w.heap.size (fun k_ => ((P0_0_ k_ ∨ P0_1_ k_) ∨ w.heap.size ≤ k_) ∧ some k_ ≠ (.slice (some ad249) y242.length co61 : Value).ownBlock ∧ some k_ ≠ (s_.2.1 : Value).ownBlock ∧ some k_ ≠ (s_.2.2 : Value).ownBlock ∧ k_ ≠ gb223 ∧ k_ ≠ gb245) (.slice A249_1 ((rd_T44 y242 a1).f1).length c249_1) ((rd_T44 y242 a1).f1)) ∧ (Kd.V Kd.string 9 w' w.heap.size (fun k_ => ((P0_0_ k_ ∨ P0_1_ k_) ∨ w.heap.size ≤ k_) ∧ some k_ ≠ (.slice (some ad249) y242.length co61 : Value).ownBlock ∧ some k_ ≠ (s_.2.1 : Value).ownBlock ∧ some k_ ≠ (s_.2.2 : Value).ownBlock ∧ k_ ≠ gb223 ∧ k_ ≠ gb245) (.slice A249_2 ((rd_T44 y242 a1).f2).length c249_2) ((rd_T44 y242 a1).f2)) ∧ (Kd.N k44 44 w' w.heap.size (fun k_ => ((P0_0_ k_ ∨ P0_1_ k_) ∨ w.heap.size ≤ k_) ∧ some k_ ≠ (s_.2.1 : Value).ownBlock ∧ some k_ ≠ (s_.2.2 : Value).ownBlock ∧ k_ ≠ gb223 ∧ k_ ≠ gb245) (.slice (some ad249) y242.length co61) y242) ∧ (Kd.R Kd.string 9 w' w.heap.size (fun k_ => (w.heap.size ≤ k_) ∧ some k_ ≠ (s_.2.2 : Value).ownBlock) s_.2.1 y250) ∧ (Kd.R Kd.string 9 w' w.heap.size (fun k_ => (w.heap.size ≤ k_) ∧ some k_ ≠ (s_.2.1 : Value).ownBlock) s_.2.2 y253) ∧ (Kd.V k44 44 w' w.heap.size (fun k_ => ((P0_0_ k_ ∨ P0_1_ k_) ∨ w.heap.size ≤ k_) ∧ some k_ ≠ (.slice (some ad249) y242.length co61 : Value).ownBlock ∧ some k_ ≠ (s_.2.1 : Value).ownBlock ∧ some k_ ≠ (s_.2.2 : Value).ownBlock ∧ k_ ≠ gb223 ∧ k_ ≠ gb245) (.slice A0_0 l0_0.length c0_0) l0_0) ∧ (Kd.V k44 44 w' w.heap.size (fun k_ => ((P0_0_ k_ ∨ P0_1_ k_) ∨ w.heap.size ≤ k_) ∧ some k_ ≠ (.slice (some ad249) y242.length co61 : Value).ownBlock ∧ some k_ ≠ (s_.2.1 : Value).ownBlock ∧ some k_ ≠ (s_.2.2 : Value).ownBlock ∧ k_ ≠ gb223 ∧ k_ ≠ gb245) (.slice A0_0 l0_0.length c0_0) l0_0) ∧ (Kd.V Kd.bool 4 w' w.heap.size (fun k_ => ((P0_0_ k_ ∨ P0_1_ k_) ∨ w.heap.size ≤ k_) ∧ some k_ ≠ (.slice (some ad249) y242.length co61 : Value).ownBlock ∧ some k_ ≠ (s_.2.1 : Value).ownBlock ∧ some k_ ≠ (s_.2.2 : Value).ownBlock ∧ k_ ≠ gb223 ∧ k_ ≠ gb245) (.slice A0_1 l0_1.length c0_1) l0_1) ∧ (w'.heap[gb223]? = some (.cells #[.slice A0_0 l0_0.length c0_0, .slice A0_1 l0_1.length c0_1] 25 (0, 0))) ∧ (w'.heap[gb245]? = some (.cells #[.slice (some ad249) y242.length co61, .slice A0_1 l0_1.length c0_1] 25 (0, 0))) ∧ (Below w.heap.size w w')) ?_ ?_
                            rotate_left
                            · intro hCont
                              refine two_ (i := 3) (j := 11) (Ni := some 51) (Nj := some 59) #[true, true, true, true, true, true, true, true, true, true, false, false, false, false, false, false] #[true, true, true, false, true, true, true, true, true, true, false, true, false, false, false, false] rfl rfl rfl rfl (two_of HT_.out (by kernel_rfl)) (by decide) (by decide) (fun K hK => ?_) (fun K hK => ?_)
                              · skip
                                refine Kd.R_lit_step Kd.string _ 9 ?hg (N := 51) ?hd (xs := ([] : List ByteArray)) (inner := []) (ok := fun _ => True) (okp := fun _ => True) ?hr ?hp (fun _ hk => hk) trivial (Below.refl _ _) (Nat.le_refl _) (by simp) ?_; (case hd => rfl); (case hg => rfl); (case hr => first | (go_simp; done) | (go_simp; rfl)); (case hp => exact (Reps.none _ _))
                                intro v247 w66 ho67 hb hg_ hnew_
                                have HS2_ := (hb.cell (World.block_lt_of_cell? _ _ (hHeld.2.2.1))).trans (hHeld.2.2.1)
                                have HS3_ := (hb.cell (World.block_lt_of_cell? _ _ (hHeld.2.2.2.1))).trans (hHeld.2.2.2.1)
                                have HS4_ := (hb.cell (World.block_lt_of_cell? _ _ (hHeld.2.2.2.2.1))).trans (hHeld.2.2.2.2.1)
                                have HS5_ := (hb.cell (World.block_lt_of_cell? _ _ (hHeld.2.2.2.2.2.1))).trans (hHeld.2.2.2.2.2.1)
                                have HS6_ := (hb.cell (World.block_lt_of_cell? _ _ (hHeld.2.2.2.2.2.2))).trans (hHeld.2.2.2.2.2.2)
                                clear hg_ hnew_
                                (first | rw [← Ny246.out] at ho67 | (simp only [Int.reduceToNat] at ho67; rw [← Ny246.out] at ho67))
                                have n0_ := Aside0.mk (Kd.V_elder' (by (with_reducible repeat (first | apply Kd.V_alloc | apply Kd.V_drewN | apply Kd.V_drew)); exact HO_15.out) (Kd.R_base ho67) hb)
                                have n1_ := Aside0.mk (Kd.V_elder' (by (with_reducible repeat (first | apply Kd.V_alloc | apply Kd.V_drewN | apply Kd.V_drew)); exact HO_224000.out) (Kd.R_base ho67) hb)
                                have n2_ := Aside0.mk (Kd.V_elder' (by (with_reducible repeat (first | apply Kd.V_alloc | apply Kd.V_drewN | apply Kd.V_drew)); exact HO_224001.out) (Kd.R_base ho67) hb)
                                have n3_ := Aside0.mk (Kd.N_elder' (by (with_reducible repeat (first | apply Kd.N_alloc | apply Kd.N_drewN | apply Kd.N_drew)); exact HO244.out) (Kd.R_base ho67) hb)
                                have n4_ := Aside0.mk (Kd.V_elder' (by (with_reducible repeat (first | apply Kd.V_alloc | apply Kd.V_drewN | apply Kd.V_drew)); exact HL249_1.out) (Kd.R_base ho67) hb)
                                have n5_ := Aside0.mk (Kd.V_elder' (by (with_reducible repeat (first | apply Kd.V_alloc | apply Kd.V_drewN | apply Kd.V_drew)); exact HL249_2.out) (Kd.R_base ho67) hb)
                                have n6_ := Aside0.mk (Kd.R_lower (Kd.R_newM (M := fun k_ => (w.heap.size ≤ k_)) ho67 (below_size (by repeat (first | (with_reducible first | exact HB.out | apply below_alloc | apply pw_below_drewN | apply below_drew1 | refine below_set ?_ GE223.out | refine below_set ?_ GE245.out) | exact HB.out))) (fun k_ h_ => h_)) (below_size (by repeat (first | (with_reducible first | exact HB.out | apply below_alloc | apply pw_below_drewN | apply below_drew1 | refine below_set ?_ GE223.out | refine below_set ?_ GE245.out) | exact HB.out))))
                                have n7_ := Aside0.mk (blk_below (g := gb223) (o := .cells #[.slice A0_0 l0_0.length c0_0, .slice A0_1 l0_1.length c0_1] 25 (0, 0)) (by (with_reducible repeat (first | refine blk_drewN ?_ _ | refine blk_drew ?_ | refine blk_alloc ?_ _)); exact BK223.out) hb)
                                have n8_ := Aside0.mk (blk_below (g := gb245) (o := .cells #[.slice (some ad249) y242.length co61, .slice A0_1 l0_1.length c0_1] 25 (0, 0)) (by (with_reducible repeat (first | refine blk_drewN ?_ _ | refine blk_drew ?_ | refine blk_alloc ?_ _)); exact BK245.out) hb)
                                have n9_ := Aside0.mk (Kd.C_below (by repeat (first | (with_reducible exact HR249_1.out) | (with_reducible refine Kd.C_alloc ?_ _) | (with_reducible refine Kd.C_drewN ?_ _) | (with_reducible refine Kd.C_drew ?_) | exact HR249_1.out)) hb)
                                have n10_ := Aside0.mk (Kd.C_below (by repeat (first | (with_reducible exact HR249_2.out) | (with_reducible refine Kd.C_alloc ?_ _) | (with_reducible refine Kd.C_drewN ?_ _) | (with_reducible refine Kd.C_drew ?_) | exact HR249_2.out)) hb)
                                have n11_ := Aside0.mk (below_step (by repeat (first | (with_reducible first | exact HB.out | apply below_alloc | apply pw_below_drewN | apply below_drew1 | refine below_set ?_ GE223.out | refine below_set ?_ GE245.out) | exact HB.out)) hb)
                                clear HO_15
                                clear HO_224000
                                clear HO_224001
                                clear HO244
                                clear HL249_1
                                clear HL249_2
                                clear BK223
                                clear BK245
                                clear HR249_1
                                clear HR249_2
                                clear HB
                                have HO_15 := n0_
                                have HO_224000 := n1_
                                have HO_224001 := n2_
                                have HO244 := n3_
                                have HL249_1 := n4_
                                have HL249_2 := n5_
                                have HO248 := n6_
                                have BK223 := n7_
                                have BK245 := n8_
                                have HR249_1 := n9_
                                have HR249_2 := n10_
                                have HB := n11_
                                clear n0_ n1_ n2_ n3_ n4_ n5_ n6_ n7_ n8_ n9_ n10_ n11_
                                clear hb ho67
                                refine hK.out _ _ ⟨(blk_cell BK245.out 0).trans rfl, (blk_cell BK245.out 1).trans rfl, HS2_, HS3_, HS4_, HS5_, HS6_⟩ (fun hHeld => ?_)
                                clear hK K
                                refine norm_ (a' := ?_) ?_ ?_
                                rotate_left
                                · show Act.put _ (some 51) _ = _
                                  simp only [Act.put, List.setIfInBounds_toArray, List.set_cons_zero, List.set_cons_succ, i64_w, i32_w]
                                  rfl
                                refine two_ (i := 10) (j := 11) (Ni := some 58) (Nj := some 59) #[true, true, true, true, true, true, true, true, true, true, true, false, false, false, false, false] #[true, true, true, true, true, true, true, true, true, true, false, true, false, false, false, false] rfl rfl rfl rfl (two_of HT_.out (by kernel_rfl)) (by decide) (by decide) (fun K hK => ?_) (fun K hK => ?_)
                                · skip
                                  refine Kd.R_append_rows_step Kd.string (w0 := w) w.heap.size (by rfl) (.tmp 51) (.tmp 57) 42 9 (.string ⟨#[]⟩) 16 rfl Tryd.underlying42 info9 rfl (by decide) (by omega) v247 y246 ((rd_T44 y242 a1).f1) _ _ _ (fun k_ => (w.heap.size ≤ k_)) (fun _ => False) rfl rfl ?aO ?aR (fun _ _ h => h) (fun _ h => h.elim) ?aF ?aB ?aS ?aL ?_
                                  (case aR => repeat (first | exact (by repeat (first | (with_reducible exact HR249_1.out) | (with_reducible refine Kd.C_alloc ?_ _) | (with_reducible refine Kd.C_drewN ?_ _) | (with_reducible refine Kd.C_drew ?_) | exact HR249_1.out)) | (with_reducible refine Kd.C_alloc ?_ _) | (with_reducible refine Kd.C_drewN ?_ _) | (with_reducible refine Kd.C_drew ?_)))
                                  (case aB => exact (by repeat (first | (with_reducible first | exact HB.out | apply below_alloc | apply pw_below_drewN | apply below_drew1 | refine below_set ?_ GE223.out | refine below_set ?_ GE245.out) | exact HB.out)))
                                  (case aF => exact (fun k_ hk => (Nat.le_trans (below_size (by repeat (first | (with_reducible first | exact HB.out | apply below_alloc | apply pw_below_drewN | apply below_drew1 | refine below_set ?_ GE223.out | refine below_set ?_ GE245.out) | exact HB.out))) hk)))
                                  (case aO => exact (by (with_reducible repeat (first | apply Kd.R_alloc | apply Kd.R_drewN | apply Kd.R_drew)); exact Kd.R_mono HO248.out (fun _ hk => hk.1)))
                                  (case aS => exact (below_size (by repeat (first | (with_reducible first | exact HB.out | apply below_alloc | apply pw_below_drewN | apply below_drew1 | refine below_set ?_ GE223.out | refine below_set ?_ GE245.out) | exact HB.out))))
                                  (case aL => have := LMc48.out; omega)
                                  intro v251 w68 ho hb hg hat
                                  have HS2_ := cell_grown hg (hHeld.2.2.1) (by first | (rw [add_block]; exact (ne_typed (Kd.N_typed HO244.out) (Kd.R_typed HO248.out) (by decide) rfl)) | (show some (Addr.add _ _).block ≠ _; rw [add_block]; exact (ne_typed (Kd.N_typed HO244.out) (Kd.R_typed HO248.out) (by decide) rfl)) | exact (ne_typed (Kd.N_typed HO244.out) (Kd.R_typed HO248.out) (by decide) rfl))
                                  have HS3_ := cell_grown hg (hHeld.2.2.2.1) (by first | (rw [add_block]; exact (ne_typed (Kd.N_typed HO244.out) (Kd.R_typed HO248.out) (by decide) rfl)) | (show some (Addr.add _ _).block ≠ _; rw [add_block]; exact (ne_typed (Kd.N_typed HO244.out) (Kd.R_typed HO248.out) (by decide) rfl)) | exact (ne_typed (Kd.N_typed HO244.out) (Kd.R_typed HO248.out) (by decide) rfl))
                                  have HS4_ := cell_grown hg (hHeld.2.2.2.2.1) (by first | (rw [add_block]; exact (ne_typed (Kd.N_typed HO244.out) (Kd.R_typed HO248.out) (by decide) rfl)) | (show some (Addr.add _ _).block ≠ _; rw [add_block]; exact (ne_typed (Kd.N_typed HO244.out) (Kd.R_typed HO248.out) (by decide) rfl)) | exact (ne_typed (Kd.N_typed HO244.out) (Kd.R_typed HO248.out) (by decide) rfl))
                                  have HS5_ := cell_grown hg (hHeld.2.2.2.2.2.1) (by first | (rw [add_block]; exact (ne_typed (Kd.N_typed HO244.out) (Kd.R_typed HO248.out) (by decide) rfl)) | (show some (Addr.add _ _).block ≠ _; rw [add_block]; exact (ne_typed (Kd.N_typed HO244.out) (Kd.R_typed HO248.out) (by decide) rfl)) | exact (ne_typed (Kd.N_typed HO244.out) (Kd.R_typed HO248.out) (by decide) rfl))
                                  have HS6_ := cell_grown hg (hHeld.2.2.2.2.2.2) (by first | (rw [add_block]; exact (ne_typed (Kd.N_typed HO244.out) (Kd.R_typed HO248.out) (by decide) rfl)) | (show some (Addr.add _ _).block ≠ _; rw [add_block]; exact (ne_typed (Kd.N_typed HO244.out) (Kd.R_typed HO248.out) (by decide) rfl)) | exact (ne_typed (Kd.N_typed HO244.out) (Kd.R_typed HO248.out) (by decide) rfl))
                                  rw [← Ny250.out] at ho
                                  have n0_ := Aside0.mk (Kd.V_afterv (ok := (fun k_ => ((P0_0_ k_ ∨ P0_1_ k_) ∨ w.heap.size ≤ k_) ∧ some k_ ≠ (.slice (some ad249) y242.length co61 : Value).ownBlock ∧ k_ ≠ gb223 ∧ k_ ≠ gb245)) (by (with_reducible repeat (first | apply Kd.V_alloc | apply Kd.V_drewN | apply Kd.V_drew)); exact HO_15.out) hg hat)
                                  have n1_ := Aside0.mk (Kd.V_afterv (ok := (fun k_ => ((P0_0_ k_ ∨ P0_1_ k_) ∨ w.heap.size ≤ k_) ∧ some k_ ≠ (.slice (some ad249) y242.length co61 : Value).ownBlock ∧ k_ ≠ gb223 ∧ k_ ≠ gb245)) (by (with_reducible repeat (first | apply Kd.V_alloc | apply Kd.V_drewN | apply Kd.V_drew)); exact HO_224000.out) hg hat)
                                  have n2_ := Aside0.mk (Kd.V_afterv (ok := (fun k_ => ((P0_0_ k_ ∨ P0_1_ k_) ∨ w.heap.size ≤ k_) ∧ some k_ ≠ (.slice (some ad249) y242.length co61 : Value).ownBlock ∧ k_ ≠ gb223 ∧ k_ ≠ gb245)) (by (with_reducible repeat (first | apply Kd.V_alloc | apply Kd.V_drewN | apply Kd.V_drew)); exact HO_224001.out) hg hat)
                                  have n3_ := Aside0.mk (blk_grown (g := gb223) (o := .cells #[.slice A0_0 l0_0.length c0_0, .slice A0_1 l0_1.length c0_1] 25 (0, 0)) (by (with_reducible repeat (first | refine blk_drewN ?_ _ | refine blk_drew ?_ | refine blk_alloc ?_ _)); exact BK223.out) hg (Kd.R_ne HO248.out BK223.out (by decide)))
                                  have n4_ := Aside0.mk (Kd.N_afterv (ok := (fun k_ => ((P0_0_ k_ ∨ P0_1_ k_) ∨ w.heap.size ≤ k_) ∧ k_ ≠ gb223 ∧ k_ ≠ gb245)) (by (with_reducible repeat (first | apply Kd.N_alloc | apply Kd.N_drewN | apply Kd.N_drew)); exact HO244.out) hg hat)
                                  have n5_ := Aside0.mk (blk_grown (g := gb245) (o := .cells #[.slice (some ad249) y242.length co61, .slice A0_1 l0_1.length c0_1] 25 (0, 0)) (by (with_reducible repeat (first | refine blk_drewN ?_ _ | refine blk_drew ?_ | refine blk_alloc ?_ _)); exact BK245.out) hg (Kd.R_ne HO248.out BK245.out (by decide)))
                                  have n6_ := Aside0.mk (Kd.V_afterv (ok := (fun k_ => ((P0_0_ k_ ∨ P0_1_ k_) ∨ w.heap.size ≤ k_) ∧ some k_ ≠ (.slice (some ad249) y242.length co61 : Value).ownBlock ∧ k_ ≠ gb223 ∧ k_ ≠ gb245)) (by (with_reducible repeat (first | apply Kd.V_alloc | apply Kd.V_drewN | apply Kd.V_drew)); exact Kd.V_mono HL249_1.out (fun _ hk => ⟨⟨hk.1.1.1, ⟨hk.1.2, ⟨hk.1.1.2.1, hk.1.1.2.2⟩⟩⟩, hk.2⟩)) hg hat)
                                  have n7_ := Aside0.mk (Kd.V_afterv (ok := (fun k_ => ((P0_0_ k_ ∨ P0_1_ k_) ∨ w.heap.size ≤ k_) ∧ some k_ ≠ (.slice (some ad249) y242.length co61 : Value).ownBlock ∧ k_ ≠ gb223 ∧ k_ ≠ gb245)) (by (with_reducible repeat (first | apply Kd.V_alloc | apply Kd.V_drewN | apply Kd.V_drew)); exact Kd.V_mono HL249_2.out (fun _ hk => ⟨⟨hk.1.1.1, ⟨hk.1.2, ⟨hk.1.1.2.1, hk.1.1.2.2⟩⟩⟩, hk.2⟩)) hg hat)
                                  have n8_ := Aside0.mk (hb)
                                  have n9_ := Aside0.mk (ho)
                                  clear HO_15
                                  clear HO_224000
                                  clear HO_224001
                                  clear BK223
                                  clear HO244
                                  clear BK245
                                  clear HL249_1
                                  clear HL249_2
                                  clear HB
                                  clear HO248
                                  have HO_15 := n0_
                                  have HO_224000 := n1_
                                  have HO_224001 := n2_
                                  have BK223 := n3_
                                  have HO244 := n4_
                                  have BK245 := n5_
                                  have HL249_1 := n6_
                                  have HL249_2 := n7_
                                  have HB := n8_
                                  have HO252 := n9_
                                  clear n0_ n1_ n2_ n3_ n4_ n5_ n6_ n7_ n8_ n9_
                                  clear ho hb hg hat
                                  refine hK.out _ _ ⟨(blk_cell BK245.out 0).trans rfl, (blk_cell BK245.out 1).trans rfl, HS2_, HS3_, HS4_, HS5_, HS6_⟩ (fun hHeld => ?_)
                                  clear hK K
                                  refine norm_ (a' := ?_) ?_ ?_
                                  rotate_left
                                  · show Act.put _ (some 58) _ = _
                                    simp only [Act.put, List.setIfInBounds_toArray, List.set_cons_zero, List.set_cons_succ, i64_w, i32_w]
                                    rfl
                                  refine one_ (i := 11) (N := some 59) #[true, true, true, true, true, true, true, true, true, true, true, true, false, false, false, false] rfl rfl (one_of HT_.out (by kernel_rfl)) (by decide) (fun K hK => ?_)
                                  refine Kd.R_lit_step Kd.string _ 9 ?hg (N := 59) ?hd (xs := ([(⟨#[109, 111, 114, 101]⟩ : ByteArray)] : List ByteArray)) (inner := [.string (⟨#[109, 111, 114, 101]⟩ : ByteArray)]) (ok := fun _ => True) (okp := fun _ => True) ?hr ?hp (fun _ hk => hk) trivial (Below.refl _ _) (Nat.le_refl _) (by simp) ?_; (case hd => rfl); (case hg => rfl); (case hr => first | (go_simp; done) | (go_simp; rfl)); (case hp => exact (Reps.one (show Kd.M Kd.string _ _ _ (⟨#[109, 111, 114, 101]⟩ : ByteArray) [.string (⟨#[109, 111, 114, 101]⟩ : ByteArray)] from rfl) (Reps.none _ _)))
                                  intro v254 w69 ho70 hb hg_ hnew_
                                  have HS2_ := (hb.cell (World.block_lt_of_cell? _ _ (hHeld.2.2.1))).trans (hHeld.2.2.1)
                                  have HS3_ := (hb.cell (World.block_lt_of_cell? _ _ (hHeld.2.2.2.1))).trans (hHeld.2.2.2.1)
                                  have HS4_ := (hb.cell (World.block_lt_of_cell? _ _ (hHeld.2.2.2.2.1))).trans (hHeld.2.2.2.2.1)
                                  have HS5_ := (hb.cell (World.block_lt_of_cell? _ _ (hHeld.2.2.2.2.2.1))).trans (hHeld.2.2.2.2.2.1)
                                  have HS6_ := (hb.cell (World.block_lt_of_cell? _ _ (hHeld.2.2.2.2.2.2))).trans (hHeld.2.2.2.2.2.2)
                                  clear hg_ hnew_
                                  (first | rw [← Ny253.out] at ho70 | (simp only [Int.reduceToNat] at ho70; rw [← Ny253.out] at ho70))
                                  have n0_ := Aside0.mk (Kd.V_elder' (by (with_reducible repeat (first | apply Kd.V_alloc | apply Kd.V_drewN | apply Kd.V_drew)); exact HO_15.out) (Kd.R_base ho70) hb)
                                  have n1_ := Aside0.mk (Kd.V_elder' (by (with_reducible repeat (first | apply Kd.V_alloc | apply Kd.V_drewN | apply Kd.V_drew)); exact HO_224000.out) (Kd.R_base ho70) hb)
                                  have n2_ := Aside0.mk (Kd.V_elder' (by (with_reducible repeat (first | apply Kd.V_alloc | apply Kd.V_drewN | apply Kd.V_drew)); exact HO_224001.out) (Kd.R_base ho70) hb)
                                  have n3_ := Aside0.mk (Kd.N_elder' (by (with_reducible repeat (first | apply Kd.N_alloc | apply Kd.N_drewN | apply Kd.N_drew)); exact HO244.out) (Kd.R_base ho70) hb)
                                  have n4_ := Aside0.mk (Kd.V_elder' (by (with_reducible repeat (first | apply Kd.V_alloc | apply Kd.V_drewN | apply Kd.V_drew)); exact HL249_1.out) (Kd.R_base ho70) hb)
                                  have n5_ := Aside0.mk (Kd.V_elder' (by (with_reducible repeat (first | apply Kd.V_alloc | apply Kd.V_drewN | apply Kd.V_drew)); exact HL249_2.out) (Kd.R_base ho70) hb)
                                  have n6_ := Aside0.mk (Kd.R_elder' (by (with_reducible repeat (first | apply Kd.R_alloc | apply Kd.R_drewN | apply Kd.R_drew)); exact HO252.out) (Kd.R_base ho70) hb)
                                  have n7_ := Aside0.mk (Kd.R_lower (Kd.R_new' (Kd.R_newM (M := fun k_ => (w.heap.size ≤ k_)) ho70 (below_size (by repeat (first | (with_reducible first | exact HB.out | apply below_alloc | apply pw_below_drewN | apply below_drew1 | refine below_set ?_ GE223.out | refine below_set ?_ GE245.out) | exact HB.out))) (fun k_ h_ => h_)) (Kd.R_lt (by (with_reducible repeat (first | apply Kd.R_alloc | apply Kd.R_drewN | apply Kd.R_drew)); exact HO252.out))) (below_size (by repeat (first | (with_reducible first | exact HB.out | apply below_alloc | apply pw_below_drewN | apply below_drew1 | refine below_set ?_ GE223.out | refine below_set ?_ GE245.out) | exact HB.out))))
                                  have n8_ := Aside0.mk (blk_below (g := gb223) (o := .cells #[.slice A0_0 l0_0.length c0_0, .slice A0_1 l0_1.length c0_1] 25 (0, 0)) (by (with_reducible repeat (first | refine blk_drewN ?_ _ | refine blk_drew ?_ | refine blk_alloc ?_ _)); exact BK223.out) hb)
                                  have n9_ := Aside0.mk (blk_below (g := gb245) (o := .cells #[.slice (some ad249) y242.length co61, .slice A0_1 l0_1.length c0_1] 25 (0, 0)) (by (with_reducible repeat (first | refine blk_drewN ?_ _ | refine blk_drew ?_ | refine blk_alloc ?_ _)); exact BK245.out) hb)
                                  have n10_ := Aside0.mk (below_step (by repeat (first | (with_reducible first | exact HB.out | apply below_alloc | apply pw_below_drewN | apply below_drew1 | refine below_set ?_ GE223.out | refine below_set ?_ GE245.out) | exact HB.out)) hb)
                                  clear HO_15
                                  clear HO_224000
                                  clear HO_224001
                                  clear HO244
                                  clear HL249_1
                                  clear HL249_2
                                  clear HO252
                                  clear BK223
                                  clear BK245
                                  clear HB
                                  have HO_15 := n0_
                                  have HO_224000 := n1_
                                  have HO_224001 := n2_
                                  have HO244 := n3_
                                  have HL249_1 := n4_
                                  have HL249_2 := n5_
                                  have HO252 := n6_
                                  have HO255 := n7_
                                  have BK223 := n8_
                                  have BK245 := n9_
                                  have HB := n10_
                                  clear n0_ n1_ n2_ n3_ n4_ n5_ n6_ n7_ n8_ n9_ n10_
                                  clear hb ho70
                                  refine hK.out _ _ ⟨(blk_cell BK245.out 0).trans rfl, (blk_cell BK245.out 1).trans rfl, HS2_, HS3_, HS4_, HS5_, HS6_⟩ (fun hHeld => ?_)
                                  clear hK K
                                  refine norm_ (a' := ?_) ?_ ?_
                                  rotate_left
                                  · show Act.put _ (some 59) _ = _
                                    simp only [Act.put, List.setIfInBounds_toArray, List.set_cons_zero, List.set_cons_succ, i64_w, i32_w]
                                    rfl
                                  exact norm_ (by simp only [putAll, Act.put, List.setIfInBounds_toArray, List.set_cons_zero, List.set_cons_succ]) (hCont (v247, v251, v254) _ ⟨hHeld, (by (with_reducible repeat (first | apply Kd.V_alloc | apply Kd.V_drewN | apply Kd.V_drew)); exact Kd.V_mono HL249_1.out (fun _ hk => ⟨hk.1.1.1, ⟨hk.1.1.2.1, ⟨hk.1.2, ⟨hk.2, ⟨hk.1.1.2.2.1, hk.1.1.2.2.2⟩⟩⟩⟩⟩)), (by (with_reducible repeat (first | apply Kd.V_alloc | apply Kd.V_drewN | apply Kd.V_drew)); exact Kd.V_mono HL249_2.out (fun _ hk => ⟨hk.1.1.1, ⟨hk.1.1.2.1, ⟨hk.1.2, ⟨hk.2, ⟨hk.1.1.2.2.1, hk.1.1.2.2.2⟩⟩⟩⟩⟩)), (by (with_reducible repeat (first | apply Kd.N_alloc | apply Kd.N_drewN | apply Kd.N_drew)); exact Kd.N_mono HO244.out (fun _ hk => ⟨hk.1.1.1, ⟨hk.1.2, ⟨hk.2, ⟨hk.1.1.2.1, hk.1.1.2.2⟩⟩⟩⟩)), (by (with_reducible repeat (first | apply Kd.R_alloc | apply Kd.R_drewN | apply Kd.R_drew)); exact HO252.out), (by (with_reducible repeat (first | apply Kd.R_alloc | apply Kd.R_drewN | apply Kd.R_drew)); exact Kd.R_mono HO255.out (fun _ hk => ⟨hk.1.1, hk.2⟩)), (by (with_reducible repeat (first | apply Kd.V_alloc | apply Kd.V_drewN | apply Kd.V_drew)); exact Kd.V_mono HO_15.out (fun _ hk => ⟨hk.1.1.1, ⟨hk.1.1.2.1, ⟨hk.1.2, ⟨hk.2, ⟨hk.1.1.2.2.1, hk.1.1.2.2.2⟩⟩⟩⟩⟩)), (by (with_reducible repeat (first | apply Kd.V_alloc | apply Kd.V_drewN | apply Kd.V_drew)); exact Kd.V_mono HO_224000.out (fun _ hk => ⟨hk.1.1.1, ⟨hk.1.1.2.1, ⟨hk.1.2, ⟨hk.2, ⟨hk.1.1.2.2.1, hk.1.1.2.2.2⟩⟩⟩⟩⟩)), (by (with_reducible repeat (first | apply Kd.V_alloc | apply Kd.V_drewN | apply Kd.V_drew)); exact Kd.V_mono HO_224001.out (fun _ hk => ⟨hk.1.1.1, ⟨hk.1.1.2.1, ⟨hk.1.2, ⟨hk.2, ⟨hk.1.1.2.2.1, hk.1.1.2.2.2⟩⟩⟩⟩⟩)), (by (with_reducible repeat (first | refine blk_drewN ?_ _ | refine blk_drew ?_ | refine blk_alloc ?_ _)); exact BK223.out), (by (with_reducible repeat (first | refine blk_drewN ?_ _ | refine blk_drew ?_ | refine blk_alloc ?_ _)); exact BK245.out), (by repeat (first | (with_reducible first | exact HB.out | apply below_alloc | apply pw_below_drewN | apply below_drew1 | refine below_set ?_ GE223.out | refine below_set ?_ GE245.out) | exact HB.out))⟩)
                                · skip
                                  refine Kd.R_lit_step Kd.string _ 9 ?hg (N := 59) ?hd (xs := ([(⟨#[109, 111, 114, 101]⟩ : ByteArray)] : List ByteArray)) (inner := [.string (⟨#[109, 111, 114, 101]⟩ : ByteArray)]) (ok := fun _ => True) (okp := fun _ => True) ?hr ?hp (fun _ hk => hk) trivial (Below.refl _ _) (Nat.le_refl _) (by simp) ?_; (case hd => rfl); (case hg => rfl); (case hr => first | (go_simp; done) | (go_simp; rfl)); (case hp => exact (Reps.one (show Kd.M Kd.string _ _ _ (⟨#[109, 111, 114, 101]⟩ : ByteArray) [.string (⟨#[109, 111, 114, 101]⟩ : ByteArray)] from rfl) (Reps.none _ _)))
                                  intro v254 w68 ho69 hb hg_ hnew_
                                  have HS2_ := (hb.cell (World.block_lt_of_cell? _ _ (hHeld.2.2.1))).trans (hHeld.2.2.1)
                                  have HS3_ := (hb.cell (World.block_lt_of_cell? _ _ (hHeld.2.2.2.1))).trans (hHeld.2.2.2.1)
                                  have HS4_ := (hb.cell (World.block_lt_of_cell? _ _ (hHeld.2.2.2.2.1))).trans (hHeld.2.2.2.2.1)
                                  have HS5_ := (hb.cell (World.block_lt_of_cell? _ _ (hHeld.2.2.2.2.2.1))).trans (hHeld.2.2.2.2.2.1)
                                  have HS6_ := (hb.cell (World.block_lt_of_cell? _ _ (hHeld.2.2.2.2.2.2))).trans (hHeld.2.2.2.2.2.2)
                                  clear hg_ hnew_
                                  (first | rw [← Ny253.out] at ho69 | (simp only [Int.reduceToNat] at ho69; rw [← Ny253.out] at ho69))
                                  have n0_ := Aside0.mk (Kd.V_elder' (by (with_reducible repeat (first | apply Kd.V_alloc | apply Kd.V_drewN | apply Kd.V_drew)); exact HO_15.out) (Kd.R_base ho69) hb)
                                  have n1_ := Aside0.mk (Kd.V_elder' (by (with_reducible repeat (first | apply Kd.V_alloc | apply Kd.V_drewN | apply Kd.V_drew)); exact HO_224000.out) (Kd.R_base ho69) hb)
                                  have n2_ := Aside0.mk (Kd.V_elder' (by (with_reducible repeat (first | apply Kd.V_alloc | apply Kd.V_drewN | apply Kd.V_drew)); exact HO_224001.out) (Kd.R_base ho69) hb)
                                  have n3_ := Aside0.mk (Kd.N_elder' (by (with_reducible repeat (first | apply Kd.N_alloc | apply Kd.N_drewN | apply Kd.N_drew)); exact HO244.out) (Kd.R_base ho69) hb)
                                  have n4_ := Aside0.mk (Kd.V_elder' (by (with_reducible repeat (first | apply Kd.V_alloc | apply Kd.V_drewN | apply Kd.V_drew)); exact HL249_1.out) (Kd.R_base ho69) hb)
                                  have n5_ := Aside0.mk (Kd.V_elder' (by (with_reducible repeat (first | apply Kd.V_alloc | apply Kd.V_drewN | apply Kd.V_drew)); exact HL249_2.out) (Kd.R_base ho69) hb)
                                  have n6_ := Aside0.mk (Kd.R_elder' (by (with_reducible repeat (first | apply Kd.R_alloc | apply Kd.R_drewN | apply Kd.R_drew)); exact HO248.out) (Kd.R_base ho69) hb)
                                  have n7_ := Aside0.mk (Kd.R_lower (Kd.R_new' (Kd.R_newM (M := fun k_ => (w.heap.size ≤ k_)) ho69 (below_size (by repeat (first | (with_reducible first | exact HB.out | apply below_alloc | apply pw_below_drewN | apply below_drew1 | refine below_set ?_ GE223.out | refine below_set ?_ GE245.out) | exact HB.out))) (fun k_ h_ => h_)) (Kd.R_lt (by (with_reducible repeat (first | apply Kd.R_alloc | apply Kd.R_drewN | apply Kd.R_drew)); exact HO248.out))) (below_size (by repeat (first | (with_reducible first | exact HB.out | apply below_alloc | apply pw_below_drewN | apply below_drew1 | refine below_set ?_ GE223.out | refine below_set ?_ GE245.out) | exact HB.out))))
                                  have n8_ := Aside0.mk (blk_below (g := gb223) (o := .cells #[.slice A0_0 l0_0.length c0_0, .slice A0_1 l0_1.length c0_1] 25 (0, 0)) (by (with_reducible repeat (first | refine blk_drewN ?_ _ | refine blk_drew ?_ | refine blk_alloc ?_ _)); exact BK223.out) hb)
                                  have n9_ := Aside0.mk (blk_below (g := gb245) (o := .cells #[.slice (some ad249) y242.length co61, .slice A0_1 l0_1.length c0_1] 25 (0, 0)) (by (with_reducible repeat (first | refine blk_drewN ?_ _ | refine blk_drew ?_ | refine blk_alloc ?_ _)); exact BK245.out) hb)
                                  have n10_ := Aside0.mk (Kd.C_below (by repeat (first | (with_reducible exact HR249_1.out) | (with_reducible refine Kd.C_alloc ?_ _) | (with_reducible refine Kd.C_drewN ?_ _) | (with_reducible refine Kd.C_drew ?_) | exact HR249_1.out)) hb)
                                  have n11_ := Aside0.mk (Kd.C_below (by repeat (first | (with_reducible exact HR249_2.out) | (with_reducible refine Kd.C_alloc ?_ _) | (with_reducible refine Kd.C_drewN ?_ _) | (with_reducible refine Kd.C_drew ?_) | exact HR249_2.out)) hb)
                                  have n12_ := Aside0.mk (below_step (by repeat (first | (with_reducible first | exact HB.out | apply below_alloc | apply pw_below_drewN | apply below_drew1 | refine below_set ?_ GE223.out | refine below_set ?_ GE245.out) | exact HB.out)) hb)
                                  clear HO_15
                                  clear HO_224000
                                  clear HO_224001
                                  clear HO244
                                  clear HL249_1
                                  clear HL249_2
                                  clear HO248
                                  clear BK223
                                  clear BK245
                                  clear HR249_1
                                  clear HR249_2
                                  clear HB
                                  have HO_15 := n0_
                                  have HO_224000 := n1_
                                  have HO_224001 := n2_
                                  have HO244 := n3_
                                  have HL249_1 := n4_
                                  have HL249_2 := n5_
                                  have HO248 := n6_
                                  have HO255 := n7_
                                  have BK223 := n8_
                                  have BK245 := n9_
                                  have HR249_1 := n10_
                                  have HR249_2 := n11_
                                  have HB := n12_
                                  clear n0_ n1_ n2_ n3_ n4_ n5_ n6_ n7_ n8_ n9_ n10_ n11_ n12_
                                  clear hb ho69
                                  refine hK.out _ _ ⟨(blk_cell BK245.out 0).trans rfl, (blk_cell BK245.out 1).trans rfl, HS2_, HS3_, HS4_, HS5_, HS6_⟩ (fun hHeld => ?_)
                                  clear hK K
                                  refine norm_ (a' := ?_) ?_ ?_
                                  rotate_left
                                  · show Act.put _ (some 59) _ = _
                                    simp only [Act.put, List.setIfInBounds_toArray, List.set_cons_zero, List.set_cons_succ, i64_w, i32_w]
                                    rfl
                                  refine one_ (i := 10) (N := some 58) #[true, true, true, true, true, true, true, true, true, true, true, true, false, false, false, false] rfl rfl (one_of HT_.out (by kernel_rfl)) (by decide) (fun K hK => ?_)
                                  refine Kd.R_append_rows_step Kd.string (w0 := w) w.heap.size (by rfl) (.tmp 51) (.tmp 57) 42 9 (.string ⟨#[]⟩) 16 rfl Tryd.underlying42 info9 rfl (by decide) (by omega) v247 y246 ((rd_T44 y242 a1).f1) _ _ _ (fun k_ => (w.heap.size ≤ k_) ∧ some k_ ≠ (v254 : Value).ownBlock) (fun _ => False) rfl rfl ?aO ?aR (fun _ _ h => h) (fun _ h => h.elim) ?aF ?aB ?aS ?aL ?_
                                  (case aR => repeat (first | exact (by repeat (first | (with_reducible exact HR249_1.out) | (with_reducible refine Kd.C_alloc ?_ _) | (with_reducible refine Kd.C_drewN ?_ _) | (with_reducible refine Kd.C_drew ?_) | exact HR249_1.out)) | (with_reducible refine Kd.C_alloc ?_ _) | (with_reducible refine Kd.C_drewN ?_ _) | (with_reducible refine Kd.C_drew ?_)))
                                  (case aB => exact (by repeat (first | (with_reducible first | exact HB.out | apply below_alloc | apply pw_below_drewN | apply below_drew1 | refine below_set ?_ GE223.out | refine below_set ?_ GE245.out) | exact HB.out)))
                                  (case aF => exact (fun k_ hk => ⟨(Nat.le_trans (below_size (by repeat (first | (with_reducible first | exact HB.out | apply below_alloc | apply pw_below_drewN | apply below_drew1 | refine below_set ?_ GE223.out | refine below_set ?_ GE245.out) | exact HB.out))) hk), Kd.fresh' (Kd.R_lt (by (with_reducible repeat (first | apply Kd.R_alloc | apply Kd.R_drewN | apply Kd.R_drew)); exact HO255.out)) k_ hk⟩))
                                  (case aO => exact (by (with_reducible repeat (first | apply Kd.R_alloc | apply Kd.R_drewN | apply Kd.R_drew)); exact Kd.R_mono HO248.out (fun _ hk => ⟨hk.1.1, hk.2⟩)))
                                  (case aS => exact (below_size (by repeat (first | (with_reducible first | exact HB.out | apply below_alloc | apply pw_below_drewN | apply below_drew1 | refine below_set ?_ GE223.out | refine below_set ?_ GE245.out) | exact HB.out))))
                                  (case aL => have := LMc48.out; omega)
                                  intro v251 w70 ho hb hg hat
                                  have HS2_ := cell_grown hg (hHeld.2.2.1) (by first | (rw [add_block]; exact (ne_typed (Kd.N_typed HO244.out) (Kd.R_typed HO248.out) (by decide) rfl)) | (show some (Addr.add _ _).block ≠ _; rw [add_block]; exact (ne_typed (Kd.N_typed HO244.out) (Kd.R_typed HO248.out) (by decide) rfl)) | exact (ne_typed (Kd.N_typed HO244.out) (Kd.R_typed HO248.out) (by decide) rfl))
                                  have HS3_ := cell_grown hg (hHeld.2.2.2.1) (by first | (rw [add_block]; exact (ne_typed (Kd.N_typed HO244.out) (Kd.R_typed HO248.out) (by decide) rfl)) | (show some (Addr.add _ _).block ≠ _; rw [add_block]; exact (ne_typed (Kd.N_typed HO244.out) (Kd.R_typed HO248.out) (by decide) rfl)) | exact (ne_typed (Kd.N_typed HO244.out) (Kd.R_typed HO248.out) (by decide) rfl))
                                  have HS4_ := cell_grown hg (hHeld.2.2.2.2.1) (by first | (rw [add_block]; exact (ne_typed (Kd.N_typed HO244.out) (Kd.R_typed HO248.out) (by decide) rfl)) | (show some (Addr.add _ _).block ≠ _; rw [add_block]; exact (ne_typed (Kd.N_typed HO244.out) (Kd.R_typed HO248.out) (by decide) rfl)) | exact (ne_typed (Kd.N_typed HO244.out) (Kd.R_typed HO248.out) (by decide) rfl))
                                  have HS5_ := cell_grown hg (hHeld.2.2.2.2.2.1) (by first | (rw [add_block]; exact (ne_typed (Kd.N_typed HO244.out) (Kd.R_typed HO248.out) (by decide) rfl)) | (show some (Addr.add _ _).block ≠ _; rw [add_block]; exact (ne_typed (Kd.N_typed HO244.out) (Kd.R_typed HO248.out) (by decide) rfl)) | exact (ne_typed (Kd.N_typed HO244.out) (Kd.R_typed HO248.out) (by decide) rfl))
                                  have HS6_ := cell_grown hg (hHeld.2.2.2.2.2.2) (by first | (rw [add_block]; exact (ne_typed (Kd.N_typed HO244.out) (Kd.R_typed HO248.out) (by decide) rfl)) | (show some (Addr.add _ _).block ≠ _; rw [add_block]; exact (ne_typed (Kd.N_typed HO244.out) (Kd.R_typed HO248.out) (by decide) rfl)) | exact (ne_typed (Kd.N_typed HO244.out) (Kd.R_typed HO248.out) (by decide) rfl))
                                  rw [← Ny250.out] at ho
                                  have n0_ := Aside0.mk (Kd.V_afterv (ok := (fun k_ => ((P0_0_ k_ ∨ P0_1_ k_) ∨ w.heap.size ≤ k_) ∧ some k_ ≠ (.slice (some ad249) y242.length co61 : Value).ownBlock ∧ some k_ ≠ (v254 : Value).ownBlock ∧ k_ ≠ gb223 ∧ k_ ≠ gb245)) (by (with_reducible repeat (first | apply Kd.V_alloc | apply Kd.V_drewN | apply Kd.V_drew)); exact Kd.V_mono HO_15.out (fun _ hk => ⟨⟨hk.1.1.1, ⟨hk.1.1.2.1, ⟨hk.2, ⟨hk.1.1.2.2.1, hk.1.1.2.2.2⟩⟩⟩⟩, hk.1.2⟩)) hg hat)
                                  have n1_ := Aside0.mk (Kd.V_afterv (ok := (fun k_ => ((P0_0_ k_ ∨ P0_1_ k_) ∨ w.heap.size ≤ k_) ∧ some k_ ≠ (.slice (some ad249) y242.length co61 : Value).ownBlock ∧ some k_ ≠ (v254 : Value).ownBlock ∧ k_ ≠ gb223 ∧ k_ ≠ gb245)) (by (with_reducible repeat (first | apply Kd.V_alloc | apply Kd.V_drewN | apply Kd.V_drew)); exact Kd.V_mono HO_224000.out (fun _ hk => ⟨⟨hk.1.1.1, ⟨hk.1.1.2.1, ⟨hk.2, ⟨hk.1.1.2.2.1, hk.1.1.2.2.2⟩⟩⟩⟩, hk.1.2⟩)) hg hat)
                                  have n2_ := Aside0.mk (Kd.V_afterv (ok := (fun k_ => ((P0_0_ k_ ∨ P0_1_ k_) ∨ w.heap.size ≤ k_) ∧ some k_ ≠ (.slice (some ad249) y242.length co61 : Value).ownBlock ∧ some k_ ≠ (v254 : Value).ownBlock ∧ k_ ≠ gb223 ∧ k_ ≠ gb245)) (by (with_reducible repeat (first | apply Kd.V_alloc | apply Kd.V_drewN | apply Kd.V_drew)); exact Kd.V_mono HO_224001.out (fun _ hk => ⟨⟨hk.1.1.1, ⟨hk.1.1.2.1, ⟨hk.2, ⟨hk.1.1.2.2.1, hk.1.1.2.2.2⟩⟩⟩⟩, hk.1.2⟩)) hg hat)
                                  have n3_ := Aside0.mk (blk_grown (g := gb223) (o := .cells #[.slice A0_0 l0_0.length c0_0, .slice A0_1 l0_1.length c0_1] 25 (0, 0)) (by (with_reducible repeat (first | refine blk_drewN ?_ _ | refine blk_drew ?_ | refine blk_alloc ?_ _)); exact BK223.out) hg (Kd.R_ne HO248.out BK223.out (by decide)))
                                  have n4_ := Aside0.mk (Kd.N_afterv (ok := (fun k_ => ((P0_0_ k_ ∨ P0_1_ k_) ∨ w.heap.size ≤ k_) ∧ some k_ ≠ (v254 : Value).ownBlock ∧ k_ ≠ gb223 ∧ k_ ≠ gb245)) (by (with_reducible repeat (first | apply Kd.N_alloc | apply Kd.N_drewN | apply Kd.N_drew)); exact Kd.N_mono HO244.out (fun _ hk => ⟨⟨hk.1.1.1, ⟨hk.2, ⟨hk.1.1.2.1, hk.1.1.2.2⟩⟩⟩, hk.1.2⟩)) hg hat)
                                  have n5_ := Aside0.mk (blk_grown (g := gb245) (o := .cells #[.slice (some ad249) y242.length co61, .slice A0_1 l0_1.length c0_1] 25 (0, 0)) (by (with_reducible repeat (first | refine blk_drewN ?_ _ | refine blk_drew ?_ | refine blk_alloc ?_ _)); exact BK245.out) hg (Kd.R_ne HO248.out BK245.out (by decide)))
                                  have n6_ := Aside0.mk (Kd.V_afterv (ok := (fun k_ => ((P0_0_ k_ ∨ P0_1_ k_) ∨ w.heap.size ≤ k_) ∧ some k_ ≠ (.slice (some ad249) y242.length co61 : Value).ownBlock ∧ some k_ ≠ (v254 : Value).ownBlock ∧ k_ ≠ gb223 ∧ k_ ≠ gb245)) (by (with_reducible repeat (first | apply Kd.V_alloc | apply Kd.V_drewN | apply Kd.V_drew)); exact Kd.V_mono HL249_1.out (fun _ hk => ⟨⟨hk.1.1.1.1, ⟨hk.1.1.2, ⟨hk.2, ⟨hk.1.1.1.2.1, hk.1.1.1.2.2⟩⟩⟩⟩, hk.1.2⟩)) hg hat)
                                  have n7_ := Aside0.mk (Kd.V_afterv (ok := (fun k_ => ((P0_0_ k_ ∨ P0_1_ k_) ∨ w.heap.size ≤ k_) ∧ some k_ ≠ (.slice (some ad249) y242.length co61 : Value).ownBlock ∧ some k_ ≠ (v254 : Value).ownBlock ∧ k_ ≠ gb223 ∧ k_ ≠ gb245)) (by (with_reducible repeat (first | apply Kd.V_alloc | apply Kd.V_drewN | apply Kd.V_drew)); exact Kd.V_mono HL249_2.out (fun _ hk => ⟨⟨hk.1.1.1.1, ⟨hk.1.1.2, ⟨hk.2, ⟨hk.1.1.1.2.1, hk.1.1.1.2.2⟩⟩⟩⟩, hk.1.2⟩)) hg hat)
                                  have n8_ := Aside0.mk (Kd.R_after (ok := (fun k_ => (w.heap.size ≤ k_))) (by (with_reducible repeat (first | apply Kd.R_alloc | apply Kd.R_drewN | apply Kd.R_drew)); exact Kd.R_mono HO255.out (fun _ hk => ⟨hk.1.1, hk.2⟩)) hg hat)
                                  have n9_ := Aside0.mk (hb)
                                  have n10_ := Aside0.mk (ho)
                                  clear HO_15
                                  clear HO_224000
                                  clear HO_224001
                                  clear BK223
                                  clear HO244
                                  clear BK245
                                  clear HL249_1
                                  clear HL249_2
                                  clear HO255
                                  clear HB
                                  clear HO248
                                  have HO_15 := n0_
                                  have HO_224000 := n1_
                                  have HO_224001 := n2_
                                  have BK223 := n3_
                                  have HO244 := n4_
                                  have BK245 := n5_
                                  have HL249_1 := n6_
                                  have HL249_2 := n7_
                                  have HO255 := n8_
                                  have HB := n9_
                                  have HO252 := n10_
                                  clear n0_ n1_ n2_ n3_ n4_ n5_ n6_ n7_ n8_ n9_ n10_
                                  clear ho hb hg hat
                                  refine hK.out _ _ ⟨(blk_cell BK245.out 0).trans rfl, (blk_cell BK245.out 1).trans rfl, HS2_, HS3_, HS4_, HS5_, HS6_⟩ (fun hHeld => ?_)
                                  clear hK K
                                  refine norm_ (a' := ?_) ?_ ?_
                                  rotate_left
                                  · show Act.put _ (some 58) _ = _
                                    simp only [Act.put, List.setIfInBounds_toArray, List.set_cons_zero, List.set_cons_succ, i64_w, i32_w]
                                    rfl
                                  exact norm_ (by simp only [putAll, Act.put, List.setIfInBounds_toArray, List.set_cons_zero, List.set_cons_succ]) (hCont (v247, v251, v254) _ ⟨hHeld, (by (with_reducible repeat (first | apply Kd.V_alloc | apply Kd.V_drewN | apply Kd.V_drew)); exact Kd.V_mono HL249_1.out (fun _ hk => ⟨hk.1.1, ⟨hk.1.2.1, ⟨hk.2, ⟨hk.1.2.2.1, ⟨hk.1.2.2.2.1, hk.1.2.2.2.2⟩⟩⟩⟩⟩)), (by (with_reducible repeat (first | apply Kd.V_alloc | apply Kd.V_drewN | apply Kd.V_drew)); exact Kd.V_mono HL249_2.out (fun _ hk => ⟨hk.1.1, ⟨hk.1.2.1, ⟨hk.2, ⟨hk.1.2.2.1, ⟨hk.1.2.2.2.1, hk.1.2.2.2.2⟩⟩⟩⟩⟩)), (by (with_reducible repeat (first | apply Kd.N_alloc | apply Kd.N_drewN | apply Kd.N_drew)); exact Kd.N_mono HO244.out (fun _ hk => ⟨hk.1.1, ⟨hk.2, ⟨hk.1.2.1, ⟨hk.1.2.2.1, hk.1.2.2.2⟩⟩⟩⟩)), (by (with_reducible repeat (first | apply Kd.R_alloc | apply Kd.R_drewN | apply Kd.R_drew)); exact HO252.out), (by (with_reducible repeat (first | apply Kd.R_alloc | apply Kd.R_drewN | apply Kd.R_drew)); exact HO255.out), (by (with_reducible repeat (first | apply Kd.V_alloc | apply Kd.V_drewN | apply Kd.V_drew)); exact Kd.V_mono HO_15.out (fun _ hk => ⟨hk.1.1, ⟨hk.1.2.1, ⟨hk.2, ⟨hk.1.2.2.1, ⟨hk.1.2.2.2.1, hk.1.2.2.2.2⟩⟩⟩⟩⟩)), (by (with_reducible repeat (first | apply Kd.V_alloc | apply Kd.V_drewN | apply Kd.V_drew)); exact Kd.V_mono HO_224000.out (fun _ hk => ⟨hk.1.1, ⟨hk.1.2.1, ⟨hk.2, ⟨hk.1.2.2.1, ⟨hk.1.2.2.2.1, hk.1.2.2.2.2⟩⟩⟩⟩⟩)), (by (with_reducible repeat (first | apply Kd.V_alloc | apply Kd.V_drewN | apply Kd.V_drew)); exact Kd.V_mono HO_224001.out (fun _ hk => ⟨hk.1.1, ⟨hk.1.2.1, ⟨hk.2, ⟨hk.1.2.2.1, ⟨hk.1.2.2.2.1, hk.1.2.2.2.2⟩⟩⟩⟩⟩)), (by (with_reducible repeat (first | refine blk_drewN ?_ _ | refine blk_drew ?_ | refine blk_alloc ?_ _)); exact BK223.out), (by (with_reducible repeat (first | refine blk_drewN ?_ _ | refine blk_drew ?_ | refine blk_alloc ?_ _)); exact BK245.out), (by repeat (first | (with_reducible first | exact HB.out | apply below_alloc | apply pw_below_drewN | apply below_drew1 | refine below_set ?_ GE223.out | refine below_set ?_ GE245.out) | exact HB.out))⟩)
                              · skip
                                refine Kd.R_lit_step Kd.string _ 9 ?hg (N := 59) ?hd (xs := ([(⟨#[109, 111, 114, 101]⟩ : ByteArray)] : List ByteArray)) (inner := [.string (⟨#[109, 111, 114, 101]⟩ : ByteArray)]) (ok := fun _ => True) (okp := fun _ => True) ?hr ?hp (fun _ hk => hk) trivial (Below.refl _ _) (Nat.le_refl _) (by simp) ?_; (case hd => rfl); (case hg => rfl); (case hr => first | (go_simp; done) | (go_simp; rfl)); (case hp => exact (Reps.one (show Kd.M Kd.string _ _ _ (⟨#[109, 111, 114, 101]⟩ : ByteArray) [.string (⟨#[109, 111, 114, 101]⟩ : ByteArray)] from rfl) (Reps.none _ _)))
                                intro v254 w66 ho67 hb hg_ hnew_
                                have HS2_ := (hb.cell (World.block_lt_of_cell? _ _ (hHeld.2.2.1))).trans (hHeld.2.2.1)
                                have HS3_ := (hb.cell (World.block_lt_of_cell? _ _ (hHeld.2.2.2.1))).trans (hHeld.2.2.2.1)
                                have HS4_ := (hb.cell (World.block_lt_of_cell? _ _ (hHeld.2.2.2.2.1))).trans (hHeld.2.2.2.2.1)
                                have HS5_ := (hb.cell (World.block_lt_of_cell? _ _ (hHeld.2.2.2.2.2.1))).trans (hHeld.2.2.2.2.2.1)
                                have HS6_ := (hb.cell (World.block_lt_of_cell? _ _ (hHeld.2.2.2.2.2.2))).trans (hHeld.2.2.2.2.2.2)
                                clear hg_ hnew_
                                (first | rw [← Ny253.out] at ho67 | (simp only [Int.reduceToNat] at ho67; rw [← Ny253.out] at ho67))
                                have n0_ := Aside0.mk (Kd.V_elder' (by (with_reducible repeat (first | apply Kd.V_alloc | apply Kd.V_drewN | apply Kd.V_drew)); exact HO_15.out) (Kd.R_base ho67) hb)
                                have n1_ := Aside0.mk (Kd.V_elder' (by (with_reducible repeat (first | apply Kd.V_alloc | apply Kd.V_drewN | apply Kd.V_drew)); exact HO_224000.out) (Kd.R_base ho67) hb)
                                have n2_ := Aside0.mk (Kd.V_elder' (by (with_reducible repeat (first | apply Kd.V_alloc | apply Kd.V_drewN | apply Kd.V_drew)); exact HO_224001.out) (Kd.R_base ho67) hb)
                                have n3_ := Aside0.mk (Kd.N_elder' (by (with_reducible repeat (first | apply Kd.N_alloc | apply Kd.N_drewN | apply Kd.N_drew)); exact HO244.out) (Kd.R_base ho67) hb)
                                have n4_ := Aside0.mk (Kd.V_elder' (by (with_reducible repeat (first | apply Kd.V_alloc | apply Kd.V_drewN | apply Kd.V_drew)); exact HL249_1.out) (Kd.R_base ho67) hb)
                                have n5_ := Aside0.mk (Kd.V_elder' (by (with_reducible repeat (first | apply Kd.V_alloc | apply Kd.V_drewN | apply Kd.V_drew)); exact HL249_2.out) (Kd.R_base ho67) hb)
                                have n6_ := Aside0.mk (Kd.R_lower (Kd.R_newM (M := fun k_ => (w.heap.size ≤ k_)) ho67 (below_size (by repeat (first | (with_reducible first | exact HB.out | apply below_alloc | apply pw_below_drewN | apply below_drew1 | refine below_set ?_ GE223.out | refine below_set ?_ GE245.out) | exact HB.out))) (fun k_ h_ => h_)) (below_size (by repeat (first | (with_reducible first | exact HB.out | apply below_alloc | apply pw_below_drewN | apply below_drew1 | refine below_set ?_ GE223.out | refine below_set ?_ GE245.out) | exact HB.out))))
                                have n7_ := Aside0.mk (blk_below (g := gb223) (o := .cells #[.slice A0_0 l0_0.length c0_0, .slice A0_1 l0_1.length c0_1] 25 (0, 0)) (by (with_reducible repeat (first | refine blk_drewN ?_ _ | refine blk_drew ?_ | refine blk_alloc ?_ _)); exact BK223.out) hb)
                                have n8_ := Aside0.mk (blk_below (g := gb245) (o := .cells #[.slice (some ad249) y242.length co61, .slice A0_1 l0_1.length c0_1] 25 (0, 0)) (by (with_reducible repeat (first | refine blk_drewN ?_ _ | refine blk_drew ?_ | refine blk_alloc ?_ _)); exact BK245.out) hb)
                                have n9_ := Aside0.mk (Kd.C_below (by repeat (first | (with_reducible exact HR249_1.out) | (with_reducible refine Kd.C_alloc ?_ _) | (with_reducible refine Kd.C_drewN ?_ _) | (with_reducible refine Kd.C_drew ?_) | exact HR249_1.out)) hb)
                                have n10_ := Aside0.mk (Kd.C_below (by repeat (first | (with_reducible exact HR249_2.out) | (with_reducible refine Kd.C_alloc ?_ _) | (with_reducible refine Kd.C_drewN ?_ _) | (with_reducible refine Kd.C_drew ?_) | exact HR249_2.out)) hb)
                                have n11_ := Aside0.mk (below_step (by repeat (first | (with_reducible first | exact HB.out | apply below_alloc | apply pw_below_drewN | apply below_drew1 | refine below_set ?_ GE223.out | refine below_set ?_ GE245.out) | exact HB.out)) hb)
                                clear HO_15
                                clear HO_224000
                                clear HO_224001
                                clear HO244
                                clear HL249_1
                                clear HL249_2
                                clear BK223
                                clear BK245
                                clear HR249_1
                                clear HR249_2
                                clear HB
                                have HO_15 := n0_
                                have HO_224000 := n1_
                                have HO_224001 := n2_
                                have HO244 := n3_
                                have HL249_1 := n4_
                                have HL249_2 := n5_
                                have HO255 := n6_
                                have BK223 := n7_
                                have BK245 := n8_
                                have HR249_1 := n9_
                                have HR249_2 := n10_
                                have HB := n11_
                                clear n0_ n1_ n2_ n3_ n4_ n5_ n6_ n7_ n8_ n9_ n10_ n11_
                                clear hb ho67
                                refine hK.out _ _ ⟨(blk_cell BK245.out 0).trans rfl, (blk_cell BK245.out 1).trans rfl, HS2_, HS3_, HS4_, HS5_, HS6_⟩ (fun hHeld => ?_)
                                clear hK K
                                refine norm_ (a' := ?_) ?_ ?_
                                rotate_left
                                · show Act.put _ (some 59) _ = _
                                  simp only [Act.put, List.setIfInBounds_toArray, List.set_cons_zero, List.set_cons_succ, i64_w, i32_w]
                                  rfl
                                refine one_ (i := 3) (N := some 51) #[true, true, true, true, true, true, true, true, true, true, false, true, false, false, false, false] rfl rfl (one_of HT_.out (by kernel_rfl)) (by decide) (fun K hK => ?_)
                                refine Kd.R_lit_step Kd.string _ 9 ?hg (N := 51) ?hd (xs := ([] : List ByteArray)) (inner := []) (ok := fun _ => True) (okp := fun _ => True) ?hr ?hp (fun _ hk => hk) trivial (Below.refl _ _) (Nat.le_refl _) (by simp) ?_; (case hd => rfl); (case hg => rfl); (case hr => first | (go_simp; done) | (go_simp; rfl)); (case hp => exact (Reps.none _ _))
                                intro v247 w68 ho69 hb hg_ hnew_
                                have HS2_ := (hb.cell (World.block_lt_of_cell? _ _ (hHeld.2.2.1))).trans (hHeld.2.2.1)
                                have HS3_ := (hb.cell (World.block_lt_of_cell? _ _ (hHeld.2.2.2.1))).trans (hHeld.2.2.2.1)
                                have HS4_ := (hb.cell (World.block_lt_of_cell? _ _ (hHeld.2.2.2.2.1))).trans (hHeld.2.2.2.2.1)
                                have HS5_ := (hb.cell (World.block_lt_of_cell? _ _ (hHeld.2.2.2.2.2.1))).trans (hHeld.2.2.2.2.2.1)
                                have HS6_ := (hb.cell (World.block_lt_of_cell? _ _ (hHeld.2.2.2.2.2.2))).trans (hHeld.2.2.2.2.2.2)
                                clear hg_ hnew_
                                (first | rw [← Ny246.out] at ho69 | (simp only [Int.reduceToNat] at ho69; rw [← Ny246.out] at ho69))
                                have n0_ := Aside0.mk (Kd.V_elder' (by (with_reducible repeat (first | apply Kd.V_alloc | apply Kd.V_drewN | apply Kd.V_drew)); exact HO_15.out) (Kd.R_base ho69) hb)
                                have n1_ := Aside0.mk (Kd.V_elder' (by (with_reducible repeat (first | apply Kd.V_alloc | apply Kd.V_drewN | apply Kd.V_drew)); exact HO_224000.out) (Kd.R_base ho69) hb)
                                have n2_ := Aside0.mk (Kd.V_elder' (by (with_reducible repeat (first | apply Kd.V_alloc | apply Kd.V_drewN | apply Kd.V_drew)); exact HO_224001.out) (Kd.R_base ho69) hb)
                                have n3_ := Aside0.mk (Kd.N_elder' (by (with_reducible repeat (first | apply Kd.N_alloc | apply Kd.N_drewN | apply Kd.N_drew)); exact HO244.out) (Kd.R_base ho69) hb)
                                have n4_ := Aside0.mk (Kd.V_elder' (by (with_reducible repeat (first | apply Kd.V_alloc | apply Kd.V_drewN | apply Kd.V_drew)); exact HL249_1.out) (Kd.R_base ho69) hb)
                                have n5_ := Aside0.mk (Kd.V_elder' (by (with_reducible repeat (first | apply Kd.V_alloc | apply Kd.V_drewN | apply Kd.V_drew)); exact HL249_2.out) (Kd.R_base ho69) hb)
                                have n6_ := Aside0.mk (Kd.R_elder' (by (with_reducible repeat (first | apply Kd.R_alloc | apply Kd.R_drewN | apply Kd.R_drew)); exact HO255.out) (Kd.R_base ho69) hb)
                                have n7_ := Aside0.mk (Kd.R_lower (Kd.R_new' (Kd.R_newM (M := fun k_ => (w.heap.size ≤ k_)) ho69 (below_size (by repeat (first | (with_reducible first | exact HB.out | apply below_alloc | apply pw_below_drewN | apply below_drew1 | refine below_set ?_ GE223.out | refine below_set ?_ GE245.out) | exact HB.out))) (fun k_ h_ => h_)) (Kd.R_lt (by (with_reducible repeat (first | apply Kd.R_alloc | apply Kd.R_drewN | apply Kd.R_drew)); exact HO255.out))) (below_size (by repeat (first | (with_reducible first | exact HB.out | apply below_alloc | apply pw_below_drewN | apply below_drew1 | refine below_set ?_ GE223.out | refine below_set ?_ GE245.out) | exact HB.out))))
                                have n8_ := Aside0.mk (blk_below (g := gb223) (o := .cells #[.slice A0_0 l0_0.length c0_0, .slice A0_1 l0_1.length c0_1] 25 (0, 0)) (by (with_reducible repeat (first | refine blk_drewN ?_ _ | refine blk_drew ?_ | refine blk_alloc ?_ _)); exact BK223.out) hb)
                                have n9_ := Aside0.mk (blk_below (g := gb245) (o := .cells #[.slice (some ad249) y242.length co61, .slice A0_1 l0_1.length c0_1] 25 (0, 0)) (by (with_reducible repeat (first | refine blk_drewN ?_ _ | refine blk_drew ?_ | refine blk_alloc ?_ _)); exact BK245.out) hb)
                                have n10_ := Aside0.mk (Kd.C_below (by repeat (first | (with_reducible exact HR249_1.out) | (with_reducible refine Kd.C_alloc ?_ _) | (with_reducible refine Kd.C_drewN ?_ _) | (with_reducible refine Kd.C_drew ?_) | exact HR249_1.out)) hb)
                                have n11_ := Aside0.mk (Kd.C_below (by repeat (first | (with_reducible exact HR249_2.out) | (with_reducible refine Kd.C_alloc ?_ _) | (with_reducible refine Kd.C_drewN ?_ _) | (with_reducible refine Kd.C_drew ?_) | exact HR249_2.out)) hb)
                                have n12_ := Aside0.mk (below_step (by repeat (first | (with_reducible first | exact HB.out | apply below_alloc | apply pw_below_drewN | apply below_drew1 | refine below_set ?_ GE223.out | refine below_set ?_ GE245.out) | exact HB.out)) hb)
                                clear HO_15
                                clear HO_224000
                                clear HO_224001
                                clear HO244
                                clear HL249_1
                                clear HL249_2
                                clear HO255
                                clear BK223
                                clear BK245
                                clear HR249_1
                                clear HR249_2
                                clear HB
                                have HO_15 := n0_
                                have HO_224000 := n1_
                                have HO_224001 := n2_
                                have HO244 := n3_
                                have HL249_1 := n4_
                                have HL249_2 := n5_
                                have HO255 := n6_
                                have HO248 := n7_
                                have BK223 := n8_
                                have BK245 := n9_
                                have HR249_1 := n10_
                                have HR249_2 := n11_
                                have HB := n12_
                                clear n0_ n1_ n2_ n3_ n4_ n5_ n6_ n7_ n8_ n9_ n10_ n11_ n12_
                                clear hb ho69
                                refine hK.out _ _ ⟨(blk_cell BK245.out 0).trans rfl, (blk_cell BK245.out 1).trans rfl, HS2_, HS3_, HS4_, HS5_, HS6_⟩ (fun hHeld => ?_)
                                clear hK K
                                refine norm_ (a' := ?_) ?_ ?_
                                rotate_left
                                · show Act.put _ (some 51) _ = _
                                  simp only [Act.put, List.setIfInBounds_toArray, List.set_cons_zero, List.set_cons_succ, i64_w, i32_w]
                                  rfl
                                refine one_ (i := 10) (N := some 58) #[true, true, true, true, true, true, true, true, true, true, true, true, false, false, false, false] rfl rfl (one_of HT_.out (by kernel_rfl)) (by decide) (fun K hK => ?_)
                                refine Kd.R_append_rows_step Kd.string (w0 := w) w.heap.size (by rfl) (.tmp 51) (.tmp 57) 42 9 (.string ⟨#[]⟩) 16 rfl Tryd.underlying42 info9 rfl (by decide) (by omega) v247 y246 ((rd_T44 y242 a1).f1) _ _ _ (fun k_ => (w.heap.size ≤ k_) ∧ some k_ ≠ (v254 : Value).ownBlock) (fun _ => False) rfl rfl ?aO ?aR (fun _ _ h => h) (fun _ h => h.elim) ?aF ?aB ?aS ?aL ?_
                                (case aR => repeat (first | exact (by repeat (first | (with_reducible exact HR249_1.out) | (with_reducible refine Kd.C_alloc ?_ _) | (with_reducible refine Kd.C_drewN ?_ _) | (with_reducible refine Kd.C_drew ?_) | exact HR249_1.out)) | (with_reducible refine Kd.C_alloc ?_ _) | (with_reducible refine Kd.C_drewN ?_ _) | (with_reducible refine Kd.C_drew ?_)))
                                (case aB => exact (by repeat (first | (with_reducible first | exact HB.out | apply below_alloc | apply pw_below_drewN | apply below_drew1 | refine below_set ?_ GE223.out | refine below_set ?_ GE245.out) | exact HB.out)))
                                (case aF => exact (fun k_ hk => ⟨(Nat.le_trans (below_size (by repeat (first | (with_reducible first | exact HB.out | apply below_alloc | apply pw_below_drewN | apply below_drew1 | refine below_set ?_ GE223.out | refine below_set ?_ GE245.out) | exact HB.out))) hk), Kd.fresh' (Kd.R_lt (by (with_reducible repeat (first | apply Kd.R_alloc | apply Kd.R_drewN | apply Kd.R_drew)); exact HO255.out)) k_ hk⟩))
                                (case aO => exact (by (with_reducible repeat (first | apply Kd.R_alloc | apply Kd.R_drewN | apply Kd.R_drew)); exact Kd.R_mono HO248.out (fun _ hk => ⟨hk.1.1, hk.2⟩)))
                                (case aS => exact (below_size (by repeat (first | (with_reducible first | exact HB.out | apply below_alloc | apply pw_below_drewN | apply below_drew1 | refine below_set ?_ GE223.out | refine below_set ?_ GE245.out) | exact HB.out))))
                                (case aL => have := LMc48.out; omega)
                                intro v251 w70 ho hb hg hat
                                have HS2_ := cell_grown hg (hHeld.2.2.1) (by first | (rw [add_block]; exact (ne_typed (Kd.N_typed HO244.out) (Kd.R_typed HO248.out) (by decide) rfl)) | (show some (Addr.add _ _).block ≠ _; rw [add_block]; exact (ne_typed (Kd.N_typed HO244.out) (Kd.R_typed HO248.out) (by decide) rfl)) | exact (ne_typed (Kd.N_typed HO244.out) (Kd.R_typed HO248.out) (by decide) rfl))
                                have HS3_ := cell_grown hg (hHeld.2.2.2.1) (by first | (rw [add_block]; exact (ne_typed (Kd.N_typed HO244.out) (Kd.R_typed HO248.out) (by decide) rfl)) | (show some (Addr.add _ _).block ≠ _; rw [add_block]; exact (ne_typed (Kd.N_typed HO244.out) (Kd.R_typed HO248.out) (by decide) rfl)) | exact (ne_typed (Kd.N_typed HO244.out) (Kd.R_typed HO248.out) (by decide) rfl))
                                have HS4_ := cell_grown hg (hHeld.2.2.2.2.1) (by first | (rw [add_block]; exact (ne_typed (Kd.N_typed HO244.out) (Kd.R_typed HO248.out) (by decide) rfl)) | (show some (Addr.add _ _).block ≠ _; rw [add_block]; exact (ne_typed (Kd.N_typed HO244.out) (Kd.R_typed HO248.out) (by decide) rfl)) | exact (ne_typed (Kd.N_typed HO244.out) (Kd.R_typed HO248.out) (by decide) rfl))
                                have HS5_ := cell_grown hg (hHeld.2.2.2.2.2.1) (by first | (rw [add_block]; exact (ne_typed (Kd.N_typed HO244.out) (Kd.R_typed HO248.out) (by decide) rfl)) | (show some (Addr.add _ _).block ≠ _; rw [add_block]; exact (ne_typed (Kd.N_typed HO244.out) (Kd.R_typed HO248.out) (by decide) rfl)) | exact (ne_typed (Kd.N_typed HO244.out) (Kd.R_typed HO248.out) (by decide) rfl))
                                have HS6_ := cell_grown hg (hHeld.2.2.2.2.2.2) (by first | (rw [add_block]; exact (ne_typed (Kd.N_typed HO244.out) (Kd.R_typed HO248.out) (by decide) rfl)) | (show some (Addr.add _ _).block ≠ _; rw [add_block]; exact (ne_typed (Kd.N_typed HO244.out) (Kd.R_typed HO248.out) (by decide) rfl)) | exact (ne_typed (Kd.N_typed HO244.out) (Kd.R_typed HO248.out) (by decide) rfl))
                                rw [← Ny250.out] at ho
                                have n0_ := Aside0.mk (Kd.V_afterv (ok := (fun k_ => ((P0_0_ k_ ∨ P0_1_ k_) ∨ w.heap.size ≤ k_) ∧ some k_ ≠ (.slice (some ad249) y242.length co61 : Value).ownBlock ∧ some k_ ≠ (v254 : Value).ownBlock ∧ k_ ≠ gb223 ∧ k_ ≠ gb245)) (by (with_reducible repeat (first | apply Kd.V_alloc | apply Kd.V_drewN | apply Kd.V_drew)); exact Kd.V_mono HO_15.out (fun _ hk => ⟨⟨hk.1.1.1, ⟨hk.1.1.2.1, ⟨hk.1.2, ⟨hk.1.1.2.2.1, hk.1.1.2.2.2⟩⟩⟩⟩, hk.2⟩)) hg hat)
                                have n1_ := Aside0.mk (Kd.V_afterv (ok := (fun k_ => ((P0_0_ k_ ∨ P0_1_ k_) ∨ w.heap.size ≤ k_) ∧ some k_ ≠ (.slice (some ad249) y242.length co61 : Value).ownBlock ∧ some k_ ≠ (v254 : Value).ownBlock ∧ k_ ≠ gb223 ∧ k_ ≠ gb245)) (by (with_reducible repeat (first | apply Kd.V_alloc | apply Kd.V_drewN | apply Kd.V_drew)); exact Kd.V_mono HO_224000.out (fun _ hk => ⟨⟨hk.1.1.1, ⟨hk.1.1.2.1, ⟨hk.1.2, ⟨hk.1.1.2.2.1, hk.1.1.2.2.2⟩⟩⟩⟩, hk.2⟩)) hg hat)
                                have n2_ := Aside0.mk (Kd.V_afterv (ok := (fun k_ => ((P0_0_ k_ ∨ P0_1_ k_) ∨ w.heap.size ≤ k_) ∧ some k_ ≠ (.slice (some ad249) y242.length co61 : Value).ownBlock ∧ some k_ ≠ (v254 : Value).ownBlock ∧ k_ ≠ gb223 ∧ k_ ≠ gb245)) (by (with_reducible repeat (first | apply Kd.V_alloc | apply Kd.V_drewN | apply Kd.V_drew)); exact Kd.V_mono HO_224001.out (fun _ hk => ⟨⟨hk.1.1.1, ⟨hk.1.1.2.1, ⟨hk.1.2, ⟨hk.1.1.2.2.1, hk.1.1.2.2.2⟩⟩⟩⟩, hk.2⟩)) hg hat)
                                have n3_ := Aside0.mk (blk_grown (g := gb223) (o := .cells #[.slice A0_0 l0_0.length c0_0, .slice A0_1 l0_1.length c0_1] 25 (0, 0)) (by (with_reducible repeat (first | refine blk_drewN ?_ _ | refine blk_drew ?_ | refine blk_alloc ?_ _)); exact BK223.out) hg (Kd.R_ne HO248.out BK223.out (by decide)))
                                have n4_ := Aside0.mk (Kd.N_afterv (ok := (fun k_ => ((P0_0_ k_ ∨ P0_1_ k_) ∨ w.heap.size ≤ k_) ∧ some k_ ≠ (v254 : Value).ownBlock ∧ k_ ≠ gb223 ∧ k_ ≠ gb245)) (by (with_reducible repeat (first | apply Kd.N_alloc | apply Kd.N_drewN | apply Kd.N_drew)); exact Kd.N_mono HO244.out (fun _ hk => ⟨⟨hk.1.1.1, ⟨hk.1.2, ⟨hk.1.1.2.1, hk.1.1.2.2⟩⟩⟩, hk.2⟩)) hg hat)
                                have n5_ := Aside0.mk (blk_grown (g := gb245) (o := .cells #[.slice (some ad249) y242.length co61, .slice A0_1 l0_1.length c0_1] 25 (0, 0)) (by (with_reducible repeat (first | refine blk_drewN ?_ _ | refine blk_drew ?_ | refine blk_alloc ?_ _)); exact BK245.out) hg (Kd.R_ne HO248.out BK245.out (by decide)))
                                have n6_ := Aside0.mk (Kd.V_afterv (ok := (fun k_ => ((P0_0_ k_ ∨ P0_1_ k_) ∨ w.heap.size ≤ k_) ∧ some k_ ≠ (.slice (some ad249) y242.length co61 : Value).ownBlock ∧ some k_ ≠ (v254 : Value).ownBlock ∧ k_ ≠ gb223 ∧ k_ ≠ gb245)) (by (with_reducible repeat (first | apply Kd.V_alloc | apply Kd.V_drewN | apply Kd.V_drew)); exact Kd.V_mono HL249_1.out (fun _ hk => ⟨⟨hk.1.1.1.1, ⟨hk.1.1.2, ⟨hk.1.2, ⟨hk.1.1.1.2.1, hk.1.1.1.2.2⟩⟩⟩⟩, hk.2⟩)) hg hat)
                                have n7_ := Aside0.mk (Kd.V_afterv (ok := (fun k_ => ((P0_0_ k_ ∨ P0_1_ k_) ∨ w.heap.size ≤ k_) ∧ some k_ ≠ (.slice (some ad249) y242.length co61 : Value).ownBlock ∧ some k_ ≠ (v254 : Value).ownBlock ∧ k_ ≠ gb223 ∧ k_ ≠ gb245)) (by (with_reducible repeat (first | apply Kd.V_alloc | apply Kd.V_drewN | apply Kd.V_drew)); exact Kd.V_mono HL249_2.out (fun _ hk => ⟨⟨hk.1.1.1.1, ⟨hk.1.1.2, ⟨hk.1.2, ⟨hk.1.1.1.2.1, hk.1.1.1.2.2⟩⟩⟩⟩, hk.2⟩)) hg hat)
                                have n8_ := Aside0.mk (Kd.R_after (ok := (fun k_ => (w.heap.size ≤ k_))) (by (with_reducible repeat (first | apply Kd.R_alloc | apply Kd.R_drewN | apply Kd.R_drew)); exact Kd.R_mono HO255.out (fun _ hk => ⟨hk.1.1, hk.2⟩)) hg hat)
                                have n9_ := Aside0.mk (hb)
                                have n10_ := Aside0.mk (ho)
                                clear HO_15
                                clear HO_224000
                                clear HO_224001
                                clear BK223
                                clear HO244
                                clear BK245
                                clear HL249_1
                                clear HL249_2
                                clear HO255
                                clear HB
                                clear HO248
                                have HO_15 := n0_
                                have HO_224000 := n1_
                                have HO_224001 := n2_
                                have BK223 := n3_
                                have HO244 := n4_
                                have BK245 := n5_
                                have HL249_1 := n6_
                                have HL249_2 := n7_
                                have HO255 := n8_
                                have HB := n9_
                                have HO252 := n10_
                                clear n0_ n1_ n2_ n3_ n4_ n5_ n6_ n7_ n8_ n9_ n10_
                                clear ho hb hg hat
                                refine hK.out _ _ ⟨(blk_cell BK245.out 0).trans rfl, (blk_cell BK245.out 1).trans rfl, HS2_, HS3_, HS4_, HS5_, HS6_⟩ (fun hHeld => ?_)
                                clear hK K
                                refine norm_ (a' := ?_) ?_ ?_
                                rotate_left
                                · show Act.put _ (some 58) _ = _
                                  simp only [Act.put, List.setIfInBounds_toArray, List.set_cons_zero, List.set_cons_succ, i64_w, i32_w]
                                  rfl
                                exact norm_ (by simp only [putAll, Act.put, List.setIfInBounds_toArray, List.set_cons_zero, List.set_cons_succ]) (hCont (v247, v251, v254) _ ⟨hHeld, (by (with_reducible repeat (first | apply Kd.V_alloc | apply Kd.V_drewN | apply Kd.V_drew)); exact Kd.V_mono HL249_1.out (fun _ hk => ⟨hk.1.1, ⟨hk.1.2.1, ⟨hk.2, ⟨hk.1.2.2.1, ⟨hk.1.2.2.2.1, hk.1.2.2.2.2⟩⟩⟩⟩⟩)), (by (with_reducible repeat (first | apply Kd.V_alloc | apply Kd.V_drewN | apply Kd.V_drew)); exact Kd.V_mono HL249_2.out (fun _ hk => ⟨hk.1.1, ⟨hk.1.2.1, ⟨hk.2, ⟨hk.1.2.2.1, ⟨hk.1.2.2.2.1, hk.1.2.2.2.2⟩⟩⟩⟩⟩)), (by (with_reducible repeat (first | apply Kd.N_alloc | apply Kd.N_drewN | apply Kd.N_drew)); exact Kd.N_mono HO244.out (fun _ hk => ⟨hk.1.1, ⟨hk.2, ⟨hk.1.2.1, ⟨hk.1.2.2.1, hk.1.2.2.2⟩⟩⟩⟩)), (by (with_reducible repeat (first | apply Kd.R_alloc | apply Kd.R_drewN | apply Kd.R_drew)); exact HO252.out), (by (with_reducible repeat (first | apply Kd.R_alloc | apply Kd.R_drewN | apply Kd.R_drew)); exact HO255.out), (by (with_reducible repeat (first | apply Kd.V_alloc | apply Kd.V_drewN | apply Kd.V_drew)); exact Kd.V_mono HO_15.out (fun _ hk => ⟨hk.1.1, ⟨hk.1.2.1, ⟨hk.2, ⟨hk.1.2.2.1, ⟨hk.1.2.2.2.1, hk.1.2.2.2.2⟩⟩⟩⟩⟩)), (by (with_reducible repeat (first | apply Kd.V_alloc | apply Kd.V_drewN | apply Kd.V_drew)); exact Kd.V_mono HO_224000.out (fun _ hk => ⟨hk.1.1, ⟨hk.1.2.1, ⟨hk.2, ⟨hk.1.2.2.1, ⟨hk.1.2.2.2.1, hk.1.2.2.2.2⟩⟩⟩⟩⟩)), (by (with_reducible repeat (first | apply Kd.V_alloc | apply Kd.V_drewN | apply Kd.V_drew)); exact Kd.V_mono HO_224001.out (fun _ hk => ⟨hk.1.1, ⟨hk.1.2.1, ⟨hk.2, ⟨hk.1.2.2.1, ⟨hk.1.2.2.2.1, hk.1.2.2.2.2⟩⟩⟩⟩⟩)), (by (with_reducible repeat (first | refine blk_drewN ?_ _ | refine blk_drew ?_ | refine blk_alloc ?_ _)); exact BK223.out), (by (with_reducible repeat (first | refine blk_drewN ?_ _ | refine blk_drew ?_ | refine blk_alloc ?_ _)); exact BK245.out), (by repeat (first | (with_reducible first | exact HB.out | apply below_alloc | apply pw_below_drewN | apply below_drew1 | refine below_set ?_ GE223.out | refine below_set ?_ GE245.out) | exact HB.out))⟩)
                            rintro ⟨v247, v251, v254⟩ w71 ⟨hS_, h0_, h1_, h2_, h3_, h4_, h5_, h6_, h7_, h8_, h9_, h10_⟩
                            have n0_ : Aside0 (Kd.V Kd.string 9 w71 w.heap.size (fun k_ => ((P0_0_ k_ ∨ P0_1_ k_) ∨ w.heap.size ≤ k_) ∧ some k_ ≠ (.slice (some ad249) y242.length co61 : Value).ownBlock ∧ some k_ ≠ (v251 : Value).ownBlock ∧ some k_ ≠ (v254 : Value).ownBlock ∧ k_ ≠ gb223 ∧ k_ ≠ gb245) (.slice A249_1 ((rd_T44 y242 a1).f1).length c249_1) ((rd_T44 y242 a1).f1)) := ⟨h0_⟩
                            have n1_ : Aside0 (Kd.V Kd.string 9 w71 w.heap.size (fun k_ => ((P0_0_ k_ ∨ P0_1_ k_) ∨ w.heap.size ≤ k_) ∧ some k_ ≠ (.slice (some ad249) y242.length co61 : Value).ownBlock ∧ some k_ ≠ (v251 : Value).ownBlock ∧ some k_ ≠ (v254 : Value).ownBlock ∧ k_ ≠ gb223 ∧ k_ ≠ gb245) (.slice A249_2 ((rd_T44 y242 a1).f2).length c249_2) ((rd_T44 y242 a1).f2)) := ⟨h1_⟩
                            have n2_ : Aside0 (Kd.N k44 44 w71 w.heap.size (fun k_ => ((P0_0_ k_ ∨ P0_1_ k_) ∨ w.heap.size ≤ k_) ∧ some k_ ≠ (v251 : Value).ownBlock ∧ some k_ ≠ (v254 : Value).ownBlock ∧ k_ ≠ gb223 ∧ k_ ≠ gb245) (.slice (some ad249) y242.length co61) y242) := ⟨h2_⟩
                            have n3_ : Aside0 (Kd.R Kd.string 9 w71 w.heap.size (fun k_ => (w.heap.size ≤ k_) ∧ some k_ ≠ (v254 : Value).ownBlock) v251 y250) := ⟨h3_⟩
                            have n4_ : Aside0 (Kd.R Kd.string 9 w71 w.heap.size (fun k_ => (w.heap.size ≤ k_) ∧ some k_ ≠ (v251 : Value).ownBlock) v254 y253) := ⟨h4_⟩
                            have n5_ : Aside0 (Kd.V k44 44 w71 w.heap.size (fun k_ => ((P0_0_ k_ ∨ P0_1_ k_) ∨ w.heap.size ≤ k_) ∧ some k_ ≠ (.slice (some ad249) y242.length co61 : Value).ownBlock ∧ some k_ ≠ (v251 : Value).ownBlock ∧ some k_ ≠ (v254 : Value).ownBlock ∧ k_ ≠ gb223 ∧ k_ ≠ gb245) (.slice A0_0 l0_0.length c0_0) l0_0) := ⟨h5_⟩
                            have n6_ : Aside0 (Kd.V k44 44 w71 w.heap.size (fun k_ => ((P0_0_ k_ ∨ P0_1_ k_) ∨ w.heap.size ≤ k_) ∧ some k_ ≠ (.slice (some ad249) y242.length co61 : Value).ownBlock ∧ some k_ ≠ (v251 : Value).ownBlock ∧ some k_ ≠ (v254 : Value).ownBlock ∧ k_ ≠ gb223 ∧ k_ ≠ gb245) (.slice A0_0 l0_0.length c0_0) l0_0) := ⟨h6_⟩
                            have n7_ : Aside0 (Kd.V Kd.bool 4 w71 w.heap.size (fun k_ => ((P0_0_ k_ ∨ P0_1_ k_) ∨ w.heap.size ≤ k_) ∧ some k_ ≠ (.slice (some ad249) y242.length co61 : Value).ownBlock ∧ some k_ ≠ (v251 : Value).ownBlock ∧ some k_ ≠ (v254 : Value).ownBlock ∧ k_ ≠ gb223 ∧ k_ ≠ gb245) (.slice A0_1 l0_1.length c0_1) l0_1) := ⟨h7_⟩
                            have n8_ : Aside0 (w71.heap[gb223]? = some (.cells #[.slice A0_0 l0_0.length c0_0, .slice A0_1 l0_1.length c0_1] 25 (0, 0))) := ⟨h8_⟩
                            have n9_ : Aside0 (w71.heap[gb245]? = some (.cells #[.slice (some ad249) y242.length co61, .slice A0_1 l0_1.length c0_1] 25 (0, 0))) := ⟨h9_⟩
                            have n10_ : Aside0 (Below w.heap.size w w71) := ⟨h10_⟩
                            clear HO_15
                            clear HO_224000
                            clear HO_224001
                            clear HO244
                            clear BK223
                            clear BK245
                            clear HB
                            clear h0_ h1_ h2_ h3_ h4_ h5_ h6_ h7_ h8_ h9_ h10_
                            have HL249_1 := n0_
                            have HL249_2 := n1_
                            have HO244 := n2_
                            have HO252 := n3_
                            have HO255 := n4_
                            have HO_15 := n5_
                            have HO_224000 := n6_
                            have HO_224001 := n7_
                            have BK223 := n8_
                            have BK245 := n9_
                            have HB := n10_
                            clear n0_ n1_ n2_ n3_ n4_ n5_ n6_ n7_ n8_ n9_ n10_
                            have hHeld : w71.cell? ⟨gb245, 0, none⟩ = some (.slice (some ad249) y242.length co61) ∧ w71.cell? ⟨gb245, 1, none⟩ = some (.slice A0_1 l0_1.length c0_1) ∧ w71.cell? (ad249.add ((a1).toNat * 5)) = some (.string ((rd_T44 y242 a1).f0)) ∧ w71.cell? ⟨(ad249.add ((a1).toNat * 5)).block, (ad249.add ((a1).toNat * 5)).off + 1, none⟩ = some (.slice A249_1 ((rd_T44 y242 a1).f1).length c249_1) ∧ w71.cell? ⟨(ad249.add ((a1).toNat * 5)).block, (ad249.add ((a1).toNat * 5)).off + 2, none⟩ = some (.slice A249_2 ((rd_T44 y242 a1).f2).length c249_2) ∧ w71.cell? ⟨(ad249.add ((a1).toNat * 5)).block, (ad249.add ((a1).toNat * 5)).off + 3, none⟩ = some (.bool ((rd_T44 y242 a1).f3)) ∧ w71.cell? ⟨(ad249.add ((a1).toNat * 5)).block, (ad249.add ((a1).toNat * 5)).off + 4, none⟩ = some (.bool ((rd_T44 y242 a1).f4)) := hS_
                            obtain ⟨Ao73, co73, eo73⟩ := Kd.R_slice HO255.out
                            (first | subst eo73 | (injection eo73 with f1_ f2_ f3_; have f4_ := f1_.symm; have f5_ := f3_.symm; clear f1_ f2_ f3_; subst f4_; subst f5_))
                            refine norm_ (a' := ?_) ?_ ?_
                            rotate_left
                            · simp only [putAll, Act.put, List.setIfInBounds_toArray, List.set_cons_zero, List.set_cons_succ]
                              rfl
                            refine one_ (i := 12) (N := some 60) #[true, true, true, true, true, true, true, true, true, true, true, true, true, false, false, false] rfl rfl (one_of HT_.out (by kernel_rfl)) (by decide) (fun K hK => ?_)
                            refine Kd.R_append_rows_step Kd.string (w0 := w) w.heap.size (by rfl) (.tmp 58) (.tmp 59) 42 9 (.string ⟨#[]⟩) 16 rfl Tryd.underlying42 info9 rfl (by decide) (by omega) v251 y250 y253 _ _ _ (fun k_ => (w.heap.size ≤ k_) ∧ some k_ ≠ (.slice Ao73 y253.length co73 : Value).ownBlock) (fun _ => False) rfl rfl ?aO ?aR (fun _ _ h => h) (fun _ h => h.elim) ?aF ?aB ?aS ?aL ?_
                            (case aR => repeat (first | exact (Kd.R_reads' HO255.out).2.2 | (with_reducible refine Kd.C_alloc ?_ _) | (with_reducible refine Kd.C_drewN ?_ _) | (with_reducible refine Kd.C_drew ?_)))
                            (case aB => exact (by repeat (first | (with_reducible first | exact HB.out | apply below_alloc | apply pw_below_drewN | apply below_drew1 | refine below_set ?_ GE223.out | refine below_set ?_ GE245.out) | exact HB.out)))
                            (case aF => exact (fun k_ hk => ⟨(Nat.le_trans (below_size (by repeat (first | (with_reducible first | exact HB.out | apply below_alloc | apply pw_below_drewN | apply below_drew1 | refine below_set ?_ GE223.out | refine below_set ?_ GE245.out) | exact HB.out))) hk), Kd.fresh' (Kd.R_lt (by (with_reducible repeat (first | apply Kd.R_alloc | apply Kd.R_drewN | apply Kd.R_drew)); exact HO255.out)) k_ hk⟩))
                            (case aO => exact (by (with_reducible repeat (first | apply Kd.R_alloc | apply Kd.R_drewN | apply Kd.R_drew)); exact HO252.out))
                            (case aS => exact (below_size (by repeat (first | (with_reducible first | exact HB.out | apply below_alloc | apply pw_below_drewN | apply below_drew1 | refine below_set ?_ GE223.out | refine below_set ?_ GE245.out) | exact HB.out))))
                            (case aL => have := LMc49.out; omega)
                            intro v257 w72 ho hb hg hat
                            have HS2_ := cell_grown hg (hHeld.2.2.1) (by first | (rw [add_block]; exact (ne_typed (Kd.N_typed HO244.out) (Kd.R_typed HO252.out) (by decide) rfl)) | (show some (Addr.add _ _).block ≠ _; rw [add_block]; exact (ne_typed (Kd.N_typed HO244.out) (Kd.R_typed HO252.out) (by decide) rfl)) | exact (ne_typed (Kd.N_typed HO244.out) (Kd.R_typed HO252.out) (by decide) rfl))
                            have HS3_ := cell_grown hg (hHeld.2.2.2.1) (by first | (rw [add_block]; exact (ne_typed (Kd.N_typed HO244.out) (Kd.R_typed HO252.out) (by decide) rfl)) | (show some (Addr.add _ _).block ≠ _; rw [add_block]; exact (ne_typed (Kd.N_typed HO244.out) (Kd.R_typed HO252.out) (by decide) rfl)) | exact (ne_typed (Kd.N_typed HO244.out) (Kd.R_typed HO252.out) (by decide) rfl))
                            have HS4_ := cell_grown hg (hHeld.2.2.2.2.1) (by first | (rw [add_block]; exact (ne_typed (Kd.N_typed HO244.out) (Kd.R_typed HO252.out) (by decide) rfl)) | (show some (Addr.add _ _).block ≠ _; rw [add_block]; exact (ne_typed (Kd.N_typed HO244.out) (Kd.R_typed HO252.out) (by decide) rfl)) | exact (ne_typed (Kd.N_typed HO244.out) (Kd.R_typed HO252.out) (by decide) rfl))
                            have HS5_ := cell_grown hg (hHeld.2.2.2.2.2.1) (by first | (rw [add_block]; exact (ne_typed (Kd.N_typed HO244.out) (Kd.R_typed HO252.out) (by decide) rfl)) | (show some (Addr.add _ _).block ≠ _; rw [add_block]; exact (ne_typed (Kd.N_typed HO244.out) (Kd.R_typed HO252.out) (by decide) rfl)) | exact (ne_typed (Kd.N_typed HO244.out) (Kd.R_typed HO252.out) (by decide) rfl))
                            have HS6_ := cell_grown hg (hHeld.2.2.2.2.2.2) (by first | (rw [add_block]; exact (ne_typed (Kd.N_typed HO244.out) (Kd.R_typed HO252.out) (by decide) rfl)) | (show some (Addr.add _ _).block ≠ _; rw [add_block]; exact (ne_typed (Kd.N_typed HO244.out) (Kd.R_typed HO252.out) (by decide) rfl)) | exact (ne_typed (Kd.N_typed HO244.out) (Kd.R_typed HO252.out) (by decide) rfl))
                            rw [← Ny256.out] at ho
                            have n0_ := Aside0.mk (Kd.V_afterv (ok := (fun k_ => ((P0_0_ k_ ∨ P0_1_ k_) ∨ w.heap.size ≤ k_) ∧ some k_ ≠ (.slice (some ad249) y242.length co61 : Value).ownBlock ∧ some k_ ≠ (.slice Ao73 y253.length co73 : Value).ownBlock ∧ k_ ≠ gb223 ∧ k_ ≠ gb245)) (by (with_reducible repeat (first | apply Kd.V_alloc | apply Kd.V_drewN | apply Kd.V_drew)); exact Kd.V_mono HO_15.out (fun _ hk => ⟨⟨hk.1, ⟨hk.2.1, ⟨hk.2.2.2.1, ⟨hk.2.2.2.2.1, hk.2.2.2.2.2⟩⟩⟩⟩, hk.2.2.1⟩)) hg hat)
                            have n1_ := Aside0.mk (Kd.V_afterv (ok := (fun k_ => ((P0_0_ k_ ∨ P0_1_ k_) ∨ w.heap.size ≤ k_) ∧ some k_ ≠ (.slice (some ad249) y242.length co61 : Value).ownBlock ∧ some k_ ≠ (.slice Ao73 y253.length co73 : Value).ownBlock ∧ k_ ≠ gb223 ∧ k_ ≠ gb245)) (by (with_reducible repeat (first | apply Kd.V_alloc | apply Kd.V_drewN | apply Kd.V_drew)); exact Kd.V_mono HO_224000.out (fun _ hk => ⟨⟨hk.1, ⟨hk.2.1, ⟨hk.2.2.2.1, ⟨hk.2.2.2.2.1, hk.2.2.2.2.2⟩⟩⟩⟩, hk.2.2.1⟩)) hg hat)
                            have n2_ := Aside0.mk (Kd.V_afterv (ok := (fun k_ => ((P0_0_ k_ ∨ P0_1_ k_) ∨ w.heap.size ≤ k_) ∧ some k_ ≠ (.slice (some ad249) y242.length co61 : Value).ownBlock ∧ some k_ ≠ (.slice Ao73 y253.length co73 : Value).ownBlock ∧ k_ ≠ gb223 ∧ k_ ≠ gb245)) (by (with_reducible repeat (first | apply Kd.V_alloc | apply Kd.V_drewN | apply Kd.V_drew)); exact Kd.V_mono HO_224001.out (fun _ hk => ⟨⟨hk.1, ⟨hk.2.1, ⟨hk.2.2.2.1, ⟨hk.2.2.2.2.1, hk.2.2.2.2.2⟩⟩⟩⟩, hk.2.2.1⟩)) hg hat)
                            have n3_ := Aside0.mk (blk_grown (g := gb223) (o := .cells #[.slice A0_0 l0_0.length c0_0, .slice A0_1 l0_1.length c0_1] 25 (0, 0)) (by (with_reducible repeat (first | refine blk_drewN ?_ _ | refine blk_drew ?_ | refine blk_alloc ?_ _)); exact BK223.out) hg (Kd.R_ne HO252.out BK223.out (by decide)))
                            have n4_ := Aside0.mk (Kd.N_afterv (ok := (fun k_ => ((P0_0_ k_ ∨ P0_1_ k_) ∨ w.heap.size ≤ k_) ∧ some k_ ≠ (.slice Ao73 y253.length co73 : Value).ownBlock ∧ k_ ≠ gb223 ∧ k_ ≠ gb245)) (by (with_reducible repeat (first | apply Kd.N_alloc | apply Kd.N_drewN | apply Kd.N_drew)); exact Kd.N_mono HO244.out (fun _ hk => ⟨⟨hk.1, ⟨hk.2.2.1, ⟨hk.2.2.2.1, hk.2.2.2.2⟩⟩⟩, hk.2.1⟩)) hg hat)
                            have n5_ := Aside0.mk (blk_grown (g := gb245) (o := .cells #[.slice (some ad249) y242.length co61, .slice A0_1 l0_1.length c0_1] 25 (0, 0)) (by (with_reducible repeat (first | refine blk_drewN ?_ _ | refine blk_drew ?_ | refine blk_alloc ?_ _)); exact BK245.out) hg (Kd.R_ne HO252.out BK245.out (by decide)))
                            have n6_ := Aside0.mk (Kd.V_afterv (ok := (fun k_ => ((P0_0_ k_ ∨ P0_1_ k_) ∨ w.heap.size ≤ k_) ∧ some k_ ≠ (.slice (some ad249) y242.length co61 : Value).ownBlock ∧ some k_ ≠ (.slice Ao73 y253.length co73 : Value).ownBlock ∧ k_ ≠ gb223 ∧ k_ ≠ gb245)) (by (with_reducible repeat (first | apply Kd.V_alloc | apply Kd.V_drewN | apply Kd.V_drew)); exact Kd.V_mono HL249_1.out (fun _ hk => ⟨⟨hk.1, ⟨hk.2.1, ⟨hk.2.2.2.1, ⟨hk.2.2.2.2.1, hk.2.2.2.2.2⟩⟩⟩⟩, hk.2.2.1⟩)) hg hat)
                            have n7_ := Aside0.mk (Kd.V_afterv (ok := (fun k_ => ((P0_0_ k_ ∨ P0_1_ k_) ∨ w.heap.size ≤ k_) ∧ some k_ ≠ (.slice (some ad249) y242.length co61 : Value).ownBlock ∧ some k_ ≠ (.slice Ao73 y253.length co73 : Value).ownBlock ∧ k_ ≠ gb223 ∧ k_ ≠ gb245)) (by (with_reducible repeat (first | apply Kd.V_alloc | apply Kd.V_drewN | apply Kd.V_drew)); exact Kd.V_mono HL249_2.out (fun _ hk => ⟨⟨hk.1, ⟨hk.2.1, ⟨hk.2.2.2.1, ⟨hk.2.2.2.2.1, hk.2.2.2.2.2⟩⟩⟩⟩, hk.2.2.1⟩)) hg hat)
                            have n8_ := Aside0.mk (Kd.R_after (ok := (fun k_ => (w.heap.size ≤ k_))) (by (with_reducible repeat (first | apply Kd.R_alloc | apply Kd.R_drewN | apply Kd.R_drew)); exact HO255.out) hg hat)
                            have n9_ := Aside0.mk (hb)
                            have n10_ := Aside0.mk (ho)
                            clear HO_15
                            clear HO_224000
                            clear HO_224001
                            clear BK223
                            clear HO244
                            clear BK245
                            clear HL249_1
                            clear HL249_2
                            clear HO255
                            clear HB
                            clear HO252
                            have HO_15 := n0_
                            have HO_224000 := n1_
                            have HO_224001 := n2_
                            have BK223 := n3_
                            have HO244 := n4_
                            have BK245 := n5_
                            have HL249_1 := n6_
                            have HL249_2 := n7_
                            have HO255 := n8_
                            have HB := n9_
                            have HO258 := n10_
                            clear n0_ n1_ n2_ n3_ n4_ n5_ n6_ n7_ n8_ n9_ n10_
                            clear ho hb hg hat
                            have p50 : 0 ≤ (a1 : Int) := of_decide_eq_true (by first | (with_reducible assumption) | assumption)
                            have q50 : (a1 : Int) < ((y242.length : Int) : Int) := of_decide_eq_true (by first | (with_reducible assumption) | assumption)
                            obtain ⟨go50, co50, eo50, gb50, gl50, cl50, HG50⟩ := Kd.N_form HO244.out (by omega)
                            (first | cases eo50 | (injection eo50 with ea_ en_ ec_; (first | subst ea_ | (injection ea_ with ea_; subst ea_)); subst ec_; clear en_))
                            have GB50 := Aside0.mk gb50
                            have GG50 := Aside0.mk HG50
                            clear gb50 gl50 HG50
                            (first | simp only [add_plain] at hx249_0 | skip)
                            (first | simp only [add_plain] at hx249_1 | skip)
                            (first | simp only [add_plain] at hx249_2 | skip)
                            (first | simp only [add_plain] at hx249_3 | skip)
                            (first | simp only [add_plain] at hx249_4 | skip)
                            obtain ⟨ce50, hcl50, hM50, hcc50, hfr50⟩ := Kd.N_elem HO244.out z44 (a1 : Int) p50 q50
                            obtain ⟨ua50_1, uc50_1, ua50_2, uc50_2, rfl, ul50_1, ge50_1, ul50_2, ge50_2⟩ := k44_openF hM50
                            have hx50_0 : World.cell? _ ⟨go50, (a1 : Int).toNat * 5, none⟩ = some (.string ((rd_T44 y242 a1).f0)) := hcc50 0 _ rfl
                            have hx50_1 : World.cell? _ ⟨go50, (a1 : Int).toNat * 5 + 1, none⟩ = some (.slice ua50_1 ((rd_T44 y242 a1).f1).length uc50_1) := hcc50 1 _ rfl
                            have hx50_2 : World.cell? _ ⟨go50, (a1 : Int).toNat * 5 + 2, none⟩ = some (.slice ua50_2 ((rd_T44 y242 a1).f2).length uc50_2) := hcc50 2 _ rfl
                            have hx50_3 : World.cell? _ ⟨go50, (a1 : Int).toNat * 5 + 3, none⟩ = some (.bool ((rd_T44 y242 a1).f3)) := hcc50 3 _ rfl
                            have hx50_4 : World.cell? _ ⟨go50, (a1 : Int).toNat * 5 + 4, none⟩ = some (.bool ((rd_T44 y242 a1).f4)) := hcc50 4 _ rfl
                            have hf50_0 : World.frozen? _ ⟨go50, (a1 : Int).toNat * 5, none⟩ = false := hfr50 0
                            have hf50_1 : World.frozen? _ ⟨go50, (a1 : Int).toNat * 5 + 1, none⟩ = false := hfr50 1
                            have hf50_2 : World.frozen? _ ⟨go50, (a1 : Int).toNat * 5 + 2, none⟩ = false := hfr50 2
                            have hf50_3 : World.frozen? _ ⟨go50, (a1 : Int).toNat * 5 + 3, none⟩ = false := hfr50 3
                            have hf50_4 : World.frozen? _ ⟨go50, (a1 : Int).toNat * 5 + 4, none⟩ = false := hfr50 4
                            clear hcl50 hcc50 hfr50 hM50
                            replace p50 := eq_true p50
                            replace q50 := eq_true q50
                            obtain ⟨Ao99, co99, eo99⟩ := Kd.R_slice HO258.out
                            subst eo99
                            have HX74 := Aside0.mk (show Kd.N k44 44 _ w.heap.size (fun k_ => ((P0_0_ k_ ∨ P0_1_ k_) ∨ w.heap.size ≤ k_) ∧ some k_ ≠ (.slice Ao73 y253.length co73 : Value).ownBlock ∧ some k_ ≠ ((.slice Ao99 y256.length co99) : Value).ownBlock ∧ k_ ≠ gb223 ∧ k_ ≠ gb245) (.slice (some ⟨go50, 0, none⟩) y242.length co61) y242 from (Kd.N_mono (HO244.out) (fun k_ hk => ⟨hk.1.1, ⟨hk.1.2.1, ⟨hk.2, ⟨hk.1.2.2.1, hk.1.2.2.2⟩⟩⟩⟩)))
                            replace HX74 := Aside0.mk (show Kd.N k44 44 _ w.heap.size (fun k_ => ((P0_0_ k_ ∨ P0_1_ k_) ∨ w.heap.size ≤ k_) ∧ some k_ ≠ (.slice Ao73 y253.length co73 : Value).ownBlock ∧ k_ ≠ gb223 ∧ k_ ≠ gb245) (.slice (some ⟨go50, 0, none⟩) y242.length co61) y242 from Kd.N_mono HX74.out (fun k_ hk => ⟨hk.1, ⟨hk.2.1, ⟨hk.2.2.2.1, hk.2.2.2.2⟩⟩⟩))
                            obtain ⟨ce74, hcl74, hM74, hcc74, hfr74⟩ := Kd.N_elem HX74.out z44 (a1 : Int) (of_decide_eq_true (by first | (with_reducible assumption) | assumption)) (by have h_ : (a1 : Int) < ((y242.length : Int) : Int) := of_decide_eq_true (by first | (with_reducible assumption) | assumption); first | exact h_ | (have e_ := (Kd.N_reads' HO244.out).1; omega) | simpa using h_)
                            obtain ⟨ua74_1, uc74_1, ua74_2, uc74_2, rfl, ul74_1, ge74_1, ul74_2, ge74_2⟩ := k44_openF hM74
                            have RZ74 := Kd.R_types (Kd.R_types (Kd.R_apart' (HO258.out) (Kd.N_typed HO244.out) (by decide)) BK223.out (by decide)) BK245.out (by decide)
                            have RM74 := Kd.R_mono (ok' := (fun k_ => ((fun k_ => ((P0_0_ k_ ∨ P0_1_ k_) ∨ w.heap.size ≤ k_) ∧ some k_ ≠ (.slice Ao73 y253.length co73 : Value).ownBlock ∧ k_ ≠ gb223 ∧ k_ ≠ gb245)) k_ ∧ k_ ≠ go50)) RZ74 (fun k_ hk => ⟨⟨(.inr (hk.1.1.1.1)), ⟨hk.1.1.1.2, ⟨hk.1.2, hk.2⟩⟩⟩, fun e_ => (hk.1.1.2) (by rw [e_]; rfl)⟩)
                            have HP74 := (Kd.N_seg HX74.out (a1 : Int) (of_decide_eq_true (by first | (with_reducible assumption) | assumption)) (by have h_ : (a1 : Int) < ((y242.length : Int) : Int) := of_decide_eq_true (by first | (with_reducible assumption) | assumption); first | exact h_ | (have e_ := (Kd.N_reads' HO244.out).1; omega) | simpa using h_) (seg := [(.slice Ao99 y256.length co99)]) (j := 1) hcl74 hcc74 (show 2 ≤ 5 from by decide) (x' := (⟨(rd_T44 y242 a1).f0, y256, (rd_T44 y242 a1).f2, (rd_T44 y242 a1).f3, (rd_T44 y242 a1).f4⟩ : S44)) (k44_mkF _ _ (⟨(rd_T44 y242 a1).f0, y256, (rd_T44 y242 a1).f2, (rd_T44 y242 a1).f3, (rd_T44 y242 a1).f4⟩ : S44) (Kd.R_reads' RM74).2.1 (Kd.R_F RM74) ul74_2 ge74_2) (fun _ hk => hk)).1
                            rw [← Ny259.out] at HP74
                            have HQ74 := Aside0.mk HP74
                            clear hcl74 hcc74 hfr74 hM74 HP74
                            refine hK.out _ _ ⟨(blk_cell BK245.out 0).trans rfl, (blk_cell BK245.out 1).trans rfl, HS2_, HS3_, HS4_, HS5_, HS6_⟩ (fun hHeld => ?_)
                            clear hK K
                            refine norm_ (a' := ?_) ?_ ?_
                            rotate_left
                            · show Act.put _ (some 60) _ = _
                              simp only [Act.put, List.setIfInBounds_toArray, List.set_cons_zero, List.set_cons_succ, i64_w, i32_w]
                              rfl
                            refine pure_ (i := 13) (N := some 61) (v := ?_) (a' := ?_) #[true, true, true, true, true, true, true, true, true, true, true, true, true, true, false, false] rfl rfl (any_of HT_.out (by kernel_rfl)) (fun _ _ _ h => h) (Or.inl ⟨by rfl, ?_⟩) ?_ ?_
                            rotate_left
                            · intro w'
                              go_simp
                              with_reducible rfl
                            rotate_left
                            · simp only [Act.put, List.setIfInBounds_toArray, List.set_cons_zero, List.set_cons_succ, i64_w, i32_w]
                              rfl
                            refine pure_ (i := 14) (N := some 62) (v := ?_) (a' := ?_) #[true, true, true, true, true, true, true, true, true, true, true, true, true, true, true, false] rfl rfl (any_of HT_.out (by kernel_rfl)) (fun _ _ _ h => h) (Or.inl ⟨by rfl, ?_⟩) ?_ ?_
                            rotate_left
                            · intro w'
                              go_simp
                              with_reducible rfl
                            rotate_left
                            · simp only [Act.put, List.setIfInBounds_toArray, List.set_cons_zero, List.set_cons_succ, i64_w, i32_w]
                              rfl
                            refine last_ (i := 15) (N := none) #[true, true, true, true, true, true, true, true, true, true, true, true, true, true, true, true] rfl rfl (one_of HT_.out (by kernel_rfl)) (by decide) (fun K hK => ?_)
                            refine skip_ (w1 := ?_) (by rfl) rfl ?_ ?_
                            rotate_left
                            · go_simp
                              rfl
                            refine hK.out _ _ ?_
                            clear hK K
                            refine done_ (done_of HT_.out (by kernel_rfl)) ?_
                            have hok9 := HX74.out.1 go50 rfl
                            have hlen9 : y259.length = y242.length := by rw [Ny259.out, List.length_set]
                            obtain ⟨W9, hW9⟩ : ∃ W9, w72.setCell ⟨go50, a1.toNat * 5 + 1, none⟩ (.slice Ao99 y256.length co99) = W9 := ⟨_, rfl⟩
                            have BK9 : W9.heap[gb245]? = some (.cells #[.slice (some ⟨go50, 0, none⟩) y242.length co61, .slice A0_1 l0_1.length c0_1] 25 (0, 0)) := by rw [← hW9]; exact blk_far BK245.out (fun e_ => hok9.2.2.2 e_.symm) _
                            have HN9 := HQ74.out
                            have HV9 := Kd.V_far (p := ⟨go50, a1.toNat * 5 + 1, none⟩) HO_224001.out (fun k_ hk e_ => hk.1.2.1 (by rw [e_]; rfl)) (.slice Ao99 y256.length co99)
                            have HB9 : Below w.heap.size w W9 := by rw [← hW9]; exact below_set HB.out GB50.out
                            have HN9' : Kd.N k44 44 (w72.setCell ⟨go50, a1.toNat * 5 + 1, none⟩ (.slice Ao99 y256.length co99)) w.heap.size _ (.slice (some ⟨go50, 0, none⟩) y242.length co61) y259 := HN9
                            rw [hW9] at HV9 HN9'
                            have CN9 := Kd.N_reads' HN9'
                            have CV9 := Kd.V_reads' HV9
                            have Q9 := selector_Weight.calls k1 (some ⟨go50, 0, none⟩) co61 y259 A0_1 c0_1 l0_1 t260 W9 (by first | exact CN9.2.2 | (rw [hlen9]; exact CN9.2.2)) (by first | exact CN9.2.1 | (rw [hlen9]; exact CN9.2.1)) CV9.2.2 CV9.2.1 A99.out
                            rw [hlen9] at Q9
                            have HQ9 := Aside0.mk Q9
                            have HB99 := Aside0.mk HB9
                            clear Q9 HN9 HV9 HN9' CN9 CV9
                            have hc9_0 : W9.cell? ⟨gb245, 0, none⟩ = some (.slice (some ⟨go50, 0, none⟩) y242.length co61) := (blk_cell BK9 0).trans rfl
                            have hc9_1 : W9.cell? ⟨gb245, 1, none⟩ = some (.slice A0_1 l0_1.length c0_1) := (blk_cell BK9 1).trans rfl
                            rw [hW9]
                            go_wp2_with (first | ((with_reducible refine gate_callee (f := 14) rfl ?_); refine goesL_ (some 64) rfl rfl Tryd.func14 (by kernel_rfl) rfl #[.agg #[.slice (some ⟨go50, 0, none⟩) y242.length co61, .slice A0_1 l0_1.length c0_1]] rfl (by (try simp only [List.map_toArray, List.map_cons, List.map_nil]); first | done | rfl) ?_; (with_reducible refine HQ9.out.mono ?_); rintro e w99 ⟨rfl, hb9⟩; refine ⟨_, rfl, ?_⟩))
                            go_ret
                            exact ⟨by first | rfl | (rw [HRT.out]; done) | (simp [HRT.out]; done), below_then HB99.out HB99.out.size hb9⟩
                          · rw [if_neg c49] at H
                            exact absurd H (by simp)
                        · rw [if_neg c48] at H
                          exact absurd H (by simp)
                      · rw [if_neg c47] at H
                        exact absurd H (by simp)
                    · rw [if_neg c46] at H
                      exact absurd H (by simp)
                  · rw [if_neg c45] at H
                    exact absurd H (by simp)
            · rw [if_neg c37] at H
              have c37b0 : (x5_1 == t238) = false := beq_eq_false_iff_ne.mpr c37
              have c37b1 : (x5_1 != t238) = true := bne_iff_ne.mpr c37
              exact absurd ((Option.some.inj H).trans hrt) (by decide)
  · replace c4 := Bool.eq_false_iff.mpr c4
    subst c4
    have H1 : (some false) = some r := by rw [if_neg (show ¬ (false = true) by decide)] at H; exact H
    clear H
    have H := H1
    clear H1
    exact absurd ((Option.some.inj H).trans hrt) (by decide)

end Go.Proofs.YtdifaomkaekglabDoor.HS
