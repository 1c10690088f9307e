-- Written by a program of this session (wip/tools/hprint.py), which drives the kit's print; not print.sh's own output.
import Derived.Test.YtmfhhlgjbjbnhaaDoorHV0
import Derived.Test.YtmfhhlgjbjbnhaaDoorHV1
import Derived.Test.YtmfhhlgjbjbnhaaDoorHV2
namespace Go.Proofs.YtmfhhlgjbjbnhaaDoor.HV
open Go.RowKit Go.Proofs.YtmfhhlgjbjbnhaaDoorW.PrintWords Go.Proofs.YtmfhhlgjbjbnhaaDoorW.PrintLast Go.Proofs.YtmfhhlgjbjbnhaaDoorW.PrintMore
attribute [local go_sem] max2_int min2_int max_two min_two max_three min_three max_four min_four   -- for this text's walks alone
set_option linter.unusedVariables false
set_option linter.unusedSimpArgs false

attribute [local go_sem high] eqA23
/-! ### scrimlaw08_ValueBack: function 4 -/
def scrimlaw08_ValueBack.j0 : Nat → Int → ByteArray → Bool → Option (Bool)
  | 0, _, _, _ => none
  | k + 1, x0, x2, x48 => if x48 = true then (some false) else ((value_Read.f x0 x2).bind fun bt145 => (if bt145.2.2 = true then ((value_Print.f x0 bt145.1 bt145.2.1).bind fun t149 => ((value_Read.f x0 t149).bind fun bt150 => ((value_May.f x0 bt145.1 bt145.2.1).bind fun t154 => (if t154 = true then (if bt150.2.2 = true then (some (bt150.1 == bt145.1 && (bt150.2.1 == bt145.2.1))) else (some false)) else (some false))))) else (some (bt145.1 == 0 && (bt145.2.1 == 0)))))
def scrimlaw08_ValueBack.f (k : Nat) (a0 : Int) (a1_0 : Int) (a1_1 : Int) (a2 : ByteArray) : Option (Bool) := (scrimlaw08_awake.f).bind fun t138 => (if t138 = true then (if (a2.size : Int) > 200 then (some true) else ((value_Print.f a0 a1_0 a1_1).bind fun t139 => ((value_Read.f a0 t139).bind fun bt140 => ((value_May.f a0 a1_0 a1_1).bind fun t144 => (if (t144 != bt140.2.2) = true then (scrimlaw08_ValueBack.j0 k a0 a2 true) else (if bt140.2.2 = true then (if (!(bt140.1 == a1_0) || (!(bt140.2.1 == a1_1))) = true then (scrimlaw08_ValueBack.j0 k a0 a2 true) else (scrimlaw08_ValueBack.j0 k a0 a2 false)) else (scrimlaw08_ValueBack.j0 k a0 a2 (t139.toList != ([] : List UInt8))))))))) else (some false))
theorem scrimlaw08_ValueBack.mono_l : ∀ k, (∀ y0 y1 y2, LeO (scrimlaw08_ValueBack.j0 k y0 y1 y2) (scrimlaw08_ValueBack.j0 (k + 1) y0 y1 y2))
  | 0 => fun _ _ _ r h => by simp [scrimlaw08_ValueBack.j0] at h
  | k + 1 => by
    have ih0 := scrimlaw08_ValueBack.mono_l k
    · intro y0 y1 y2
      unfold scrimlaw08_ValueBack.j0
      repeat' first
      | (with_reducible exact ih0 _ _ _)
      | (with_reducible exact LeO.refl _)
      | (with_reducible exact LeO.none _)
      | (with_reducible refine LeO.ite ?_ ?_)
      | (with_reducible refine LeO.bind ?_ (fun _ => ?_))
      | exact ih0 _ _ _
      | exact LeO.none _
      | refine LeO.ite ?_ ?_
      | refine LeO.bind ?_ (fun _ => ?_)
theorem scrimlaw08_ValueBack.mono : ∀ a0 a1 a2 a3 k, LeO (scrimlaw08_ValueBack.f k a0 a1 a2 a3) (scrimlaw08_ValueBack.f (k + 1) a0 a1 a2 a3) := by
  intro a0 a1 a2 a3 k
  have ih0 := scrimlaw08_ValueBack.mono_l k
  unfold scrimlaw08_ValueBack.f
  repeat' first
      | (with_reducible exact ih0 _ _ _)
      | (with_reducible exact LeO.refl _)
      | (with_reducible exact LeO.none _)
      | (with_reducible refine LeO.ite ?_ ?_)
      | (with_reducible refine LeO.bind ?_ (fun _ => ?_))
      | exact ih0 _ _ _
      | exact LeO.none _
      | refine LeO.ite ?_ ?_
      | refine LeO.bind ?_ (fun _ => ?_)
set_option maxHeartbeats 8000000 in
set_option maxRecDepth 100000 in
theorem scrimlaw08_ValueBack.calls (k : Nat) (a0 : Int) (a1_0 : Int) (a1_1 : Int) (a2 : ByteArray) (r : Bool) (hrt : r = true) (w : World) (h : scrimlaw08_ValueBack.f k a0 a1_0 a1_1 a2 = some r) (hmx : Go.Proofs.Val.Tbs w) :
    Calls Tryd.prog 4 #[.int .i64 a0, .agg #[.int .i64 a1_0, .int .i64 a1_1], .string a2] w fun e w' => e = .returned (.bool r) ∧ Below w.heap.size w w' := by
  have HMX := Aside0.mk hmx
  clear hmx
  have hu23 := Tryd.underlying23
  have HB := Aside0.mk (Below.refl w.heap.size w)
  have H : ((scrimlaw08_awake.f).bind fun t138 => (if t138 = true then (if (a2.size : Int) > 200 then (some true) else ((value_Print.f a0 a1_0 a1_1).bind fun t139 => ((value_Read.f a0 t139).bind fun bt140 => ((value_May.f a0 a1_0 a1_1).bind fun t144 => (if (t144 != bt140.2.2) = true then (scrimlaw08_ValueBack.j0 k a0 a2 true) else (if bt140.2.2 = true then (if (!(bt140.1 == a1_0) || (!(bt140.2.1 == a1_1))) = true then (scrimlaw08_ValueBack.j0 k a0 a2 true) else (scrimlaw08_ValueBack.j0 k a0 a2 false)) else (scrimlaw08_ValueBack.j0 k a0 a2 (t139.toList != ([] : List UInt8))))))))) else (some false))) = some r := h
  clear h
  replace H := Option.bind_eq_some_iff.mp H
  obtain ⟨t138, A40, H⟩ := H
  replace H : (if t138 = true then (if (a2.size : Int) > 200 then (some true) else ((value_Print.f a0 a1_0 a1_1).bind fun t139 => ((value_Read.f a0 t139).bind fun bt140 => ((value_May.f a0 a1_0 a1_1).bind fun t144 => (if (t144 != bt140.2.2) = true then (scrimlaw08_ValueBack.j0 k a0 a2 true) else (if bt140.2.2 = true then (if (!(bt140.1 == a1_0) || (!(bt140.2.1 == a1_1))) = true then (scrimlaw08_ValueBack.j0 k a0 a2 true) else (scrimlaw08_ValueBack.j0 k a0 a2 false)) else (scrimlaw08_ValueBack.j0 k a0 a2 (t139.toList != ([] : List UInt8))))))))) else (some false)) = some r := H
  have A4 := Aside0.mk A40
  clear A40
  by_cases c5 : t138 = true
  · subst c5
    have H1 : (if (a2.size : Int) > 200 then (some true) else ((value_Print.f a0 a1_0 a1_1).bind fun t139 => ((value_Read.f a0 t139).bind fun bt140 => ((value_May.f a0 a1_0 a1_1).bind fun t144 => (if (t144 != bt140.2.2) = true then (scrimlaw08_ValueBack.j0 k a0 a2 true) else (if bt140.2.2 = true then (if (!(bt140.1 == a1_0) || (!(bt140.2.1 == a1_1))) = true then (scrimlaw08_ValueBack.j0 k a0 a2 true) else (scrimlaw08_ValueBack.j0 k a0 a2 false)) else (scrimlaw08_ValueBack.j0 k a0 a2 (t139.toList != ([] : List UInt8))))))))) = some r := by rw [if_pos rfl] at H; exact H
    clear H
    have H := H1
    clear H1
    by_cases c6 : (a2.size : Int) > 200
    · rw [if_pos c6] at H
      have c6b0 : decide (200 < (a2.size : Int)) = true := decide_eq_true c6
      have c6b1 : decide (200 < a2.size) = true := decide_eq_true (by omega)
      clear c6
      obtain rfl := Option.some.inj H; clear hrt; try clear H
      go_enter Tryd.func4, Tryd.ntmps4
      go_wp2_with (first | ((with_reducible refine gate_dst (N := 4) rfl ?_); refine box_event ?hg (N := 4) ?hd (cs := #[.int .i64 a1_0, .int .i64 a1_1]) (t := 23) ?hr ?_; (case hd => rfl); (case hg => rfl); (case hr => first | (go_simp; done) | (go_simp; rfl)); intro gb137 hg w7 hbox hb; have n0_ := Aside0.mk (below_step (by repeat (first | (with_reducible first | exact HB.out | apply below_alloc | apply pw_below_drewN | apply below_drew1) | exact HB.out)) hb); have n1_ := Aside0.mk (hbox); have n2_ := Aside0.mk ((by rw [hg]; exact (below_size (by repeat (first | (with_reducible first | exact HB.out | apply below_alloc | apply pw_below_drewN | apply below_drew1) | exact HB.out))) : w.heap.size ≤ gb137)); have n3_ := Aside0.mk ((by rw [hg]; exact (below_size (by repeat (first | (with_reducible first | exact HB.out | apply below_alloc | apply pw_below_drewN | apply below_drew1) | exact HB.out))) : w.heap.size ≤ gb137)); clear HB; have HB := n0_; have BK137 := n1_; have GW137 := n2_; have GE137 := n3_; clear n0_ n1_ n2_ n3_; clear hb hbox hg) | ((with_reducible refine gate_callee (f := 13) rfl ?_); refine goesL_ (some 14) rfl rfl Tryd.func13 (by kernel_rfl) rfl #[] rfl (by (try simp only [List.map_toArray, List.map_cons, List.map_nil]); first | done | rfl | (simp only [List.length_drop, List.length_take]; rfl)) ?_; (with_reducible refine (scrimlaw08_awake.calls  true rfl _ A4.out (HMX.out.below (by repeat (first | (with_reducible first | exact HB.out | apply below_alloc | apply pw_below_drewN | apply below_drew1 | refine below_set ?_ GE137.out | refine below_set ?_ GE143.out | refine below_set ?_ GE148.out | refine below_set ?_ GE153.out) | exact HB.out)))).mono ?_); rintro e w8 ⟨rfl, hb⟩; refine ⟨_, rfl, ?_⟩; have n0_ := Aside0.mk (blk_below (g := gb137) (o := .cells #[.int .i64 a1_0, .int .i64 a1_1] 23 (0, 0)) (by (with_reducible repeat (first | refine blk_drewN ?_ _ | refine blk_drew ?_ | refine blk_alloc ?_ _)); exact BK137.out) hb); have n1_ := Aside0.mk (below_step (by repeat (first | (with_reducible first | exact HB.out | apply below_alloc | apply pw_below_drewN | apply below_drew1 | refine below_set ?_ GE137.out) | exact HB.out)) hb); clear BK137; clear HB; have BK137 := n0_; have HB := n1_; clear n0_ n1_; (try clear hb); (try clear hb2); (try clear hk); (try clear hi)))
      go_ret
      exact ⟨by first | rfl | (simp [errW_none, errW_some] <;> rfl) | (simp [*, errW_none, errW_some] <;> rfl), by repeat (first | (with_reducible first | exact HB.out | apply below_alloc | apply pw_below_drewN | apply below_drew1 | refine below_set ?_ GE137.out) | exact HB.out)⟩
    · rw [if_neg c6] at H
      have c6b0 : decide (200 < (a2.size : Int)) = false := decide_eq_false c6
      have c6b1 : decide (200 < a2.size) = false := decide_eq_false (by omega)
      clear c6
      replace H := Option.bind_eq_some_iff.mp H
      obtain ⟨t139, A90, H⟩ := H
      replace H : ((value_Read.f a0 t139).bind fun bt140 => ((value_May.f a0 a1_0 a1_1).bind fun t144 => (if (t144 != bt140.2.2) = true then (scrimlaw08_ValueBack.j0 k a0 a2 true) else (if bt140.2.2 = true then (if (!(bt140.1 == a1_0) || (!(bt140.2.1 == a1_1))) = true then (scrimlaw08_ValueBack.j0 k a0 a2 true) else (scrimlaw08_ValueBack.j0 k a0 a2 false)) else (scrimlaw08_ValueBack.j0 k a0 a2 (t139.toList != ([] : List UInt8))))))) = some r := H
      have A9 := Aside0.mk A90
      clear A90
      replace H := Option.bind_eq_some_iff.mp H
      obtain ⟨⟨t140, t141, t142⟩, A100, H⟩ := H
      replace H : ((value_May.f a0 a1_0 a1_1).bind fun t144 => (if (t144 != t142) = true then (scrimlaw08_ValueBack.j0 k a0 a2 true) else (if t142 = true then (if (!(t140 == a1_0) || (!(t141 == a1_1))) = true then (scrimlaw08_ValueBack.j0 k a0 a2 true) else (scrimlaw08_ValueBack.j0 k a0 a2 false)) else (scrimlaw08_ValueBack.j0 k a0 a2 (t139.toList != ([] : List UInt8)))))) = some r := H
      have A10 := Aside0.mk A100
      clear A100
      have HC11 := Aside0.mk H
      clear H
      go_enter Tryd.func4, Tryd.ntmps4
      go_upto_region 7 with (first | ((with_reducible refine gate_dst (N := 4) rfl ?_); refine box_event ?hg (N := 4) ?hd (cs := #[.int .i64 a1_0, .int .i64 a1_1]) (t := 23) ?hr ?_; (case hd => rfl); (case hg => rfl); (case hr => first | (go_simp; done) | (go_simp; rfl)); intro gb137 hg w12 hbox hb; have n0_ := Aside0.mk (below_step (by repeat (first | (with_reducible first | exact HB.out | apply below_alloc | apply pw_below_drewN | apply below_drew1) | exact HB.out)) hb); have n1_ := Aside0.mk (hbox); have n2_ := Aside0.mk ((by rw [hg]; exact (below_size (by repeat (first | (with_reducible first | exact HB.out | apply below_alloc | apply pw_below_drewN | apply below_drew1) | exact HB.out))) : w.heap.size ≤ gb137)); have n3_ := Aside0.mk ((by rw [hg]; exact (below_size (by repeat (first | (with_reducible first | exact HB.out | apply below_alloc | apply pw_below_drewN | apply below_drew1) | exact HB.out))) : w.heap.size ≤ gb137)); clear HB; have HB := n0_; have BK137 := n1_; have GW137 := n2_; have GE137 := n3_; clear n0_ n1_ n2_ n3_; clear hb hbox hg) | ((with_reducible refine gate_callee (f := 13) rfl ?_); refine goesL_ (some 14) rfl rfl Tryd.func13 (by kernel_rfl) rfl #[] rfl (by (try simp only [List.map_toArray, List.map_cons, List.map_nil]); first | done | rfl | (simp only [List.length_drop, List.length_take]; rfl)) ?_; (with_reducible refine (scrimlaw08_awake.calls  true rfl _ A4.out (HMX.out.below (by repeat (first | (with_reducible first | exact HB.out | apply below_alloc | apply pw_below_drewN | apply below_drew1 | refine below_set ?_ GE137.out | refine below_set ?_ GE143.out | refine below_set ?_ GE148.out | refine below_set ?_ GE153.out) | exact HB.out)))).mono ?_); rintro e w13 ⟨rfl, hb⟩; refine ⟨_, rfl, ?_⟩; have n0_ := Aside0.mk (blk_below (g := gb137) (o := .cells #[.int .i64 a1_0, .int .i64 a1_1] 23 (0, 0)) (by (with_reducible repeat (first | refine blk_drewN ?_ _ | refine blk_drew ?_ | refine blk_alloc ?_ _)); exact BK137.out) hb); have n1_ := Aside0.mk (below_step (by repeat (first | (with_reducible first | exact HB.out | apply below_alloc | apply pw_below_drewN | apply below_drew1 | refine below_set ?_ GE137.out) | exact HB.out)) hb); clear BK137; clear HB; have BK137 := n0_; have HB := n1_; clear n0_ n1_; (try clear hb); (try clear hb2); (try clear hk); (try clear hi); have hcz14_0 : w13.cell? ⟨gb137, 0, none⟩ = some (.int .i64 a1_0) := (blk_cell BK137.out 0).trans rfl; have hcz14_1 : w13.cell? ⟨gb137, 1, none⟩ = some (.int .i64 a1_1) := (blk_cell BK137.out 1).trans rfl; have hfz14_0 := blk_frozen BK137.out 0; have hfz14_1 := blk_frozen BK137.out 1) | ((with_reducible refine gate_callee (f := 14) rfl ?_); refine goesL_ (some 21) rfl rfl Tryd.func14 (by kernel_rfl) rfl #[.int .i64 a0, .agg #[.int .i64 a1_0, .int .i64 a1_1]] rfl (by (try simp only [List.map_toArray, List.map_cons, List.map_nil]); first | done | rfl | (simp only [List.length_drop, List.length_take]; rfl)) ?_; (with_reducible refine (value_Print.calls a0 a1_0 a1_1 t139 _ A9.out (HMX.out.below (by repeat (first | (with_reducible first | exact HB.out | apply below_alloc | apply pw_below_drewN | apply below_drew1 | refine below_set ?_ GE137.out | refine below_set ?_ GE143.out | refine below_set ?_ GE148.out | refine below_set ?_ GE153.out) | exact HB.out)))).mono ?_); rintro e w15 ⟨rfl, hb⟩; refine ⟨_, rfl, ?_⟩; have n0_ := Aside0.mk (blk_below (g := gb137) (o := .cells #[.int .i64 a1_0, .int .i64 a1_1] 23 (0, 0)) (by (with_reducible repeat (first | refine blk_drewN ?_ _ | refine blk_drew ?_ | refine blk_alloc ?_ _)); exact BK137.out) hb); have n1_ := Aside0.mk (below_step (by repeat (first | (with_reducible first | exact HB.out | apply below_alloc | apply pw_below_drewN | apply below_drew1 | refine below_set ?_ GE137.out) | exact HB.out)) hb); clear BK137; clear HB; have BK137 := n0_; have HB := n1_; clear n0_ n1_; (try clear hb); (try clear hb2); (try clear hk); (try clear hi)) | ((with_reducible refine gate_callee (f := 15) rfl ?_); refine goesL_ (some 25) rfl rfl Tryd.func15 (by kernel_rfl) rfl #[.int .i64 a0, .string t139] rfl (by (try simp only [List.map_toArray, List.map_cons, List.map_nil]); first | done | rfl | (simp only [List.length_drop, List.length_take]; rfl)) ?_; (with_reducible refine (value_Read.calls a0 t139 t140 t141 t142 _ A10.out).mono ?_); rintro e w16 ⟨rfl, hb⟩; refine ⟨_, rfl, ?_⟩; have n0_ := Aside0.mk (blk_below (g := gb137) (o := .cells #[.int .i64 a1_0, .int .i64 a1_1] 23 (0, 0)) (by (with_reducible repeat (first | refine blk_drewN ?_ _ | refine blk_drew ?_ | refine blk_alloc ?_ _)); exact BK137.out) hb); have n1_ := Aside0.mk (below_step (by repeat (first | (with_reducible first | exact HB.out | apply below_alloc | apply pw_below_drewN | apply below_drew1 | refine below_set ?_ GE137.out) | exact HB.out)) hb); clear BK137; clear HB; have BK137 := n0_; have HB := n1_; clear n0_ n1_; (try clear hb); (try clear hb2); (try clear hk); (try clear hi)) | ((with_reducible refine gate_dst (N := 8) rfl ?_); refine box_event ?hg (N := 8) ?hd (cs := #[.int .i64 0, .int .i64 0]) (t := 23) ?hr ?_; (case hd => rfl); (case hg => rfl); (case hr => first | (go_simp; done) | (go_simp; rfl)); intro gb143 hg w17 hbox hb; have n0_ := Aside0.mk (blk_below (g := gb137) (o := .cells #[.int .i64 a1_0, .int .i64 a1_1] 23 (0, 0)) (by (with_reducible repeat (first | refine blk_drewN ?_ _ | refine blk_drew ?_ | refine blk_alloc ?_ _)); exact BK137.out) hb); have n1_ := Aside0.mk (below_step (by repeat (first | (with_reducible first | exact HB.out | apply below_alloc | apply pw_below_drewN | apply below_drew1 | refine below_set ?_ GE137.out) | exact HB.out)) hb); have n2_ := Aside0.mk (hbox); have n3_ := Aside0.mk ((by rw [hg]; exact (below_size (by repeat (first | (with_reducible first | exact HB.out | apply below_alloc | apply pw_below_drewN | apply below_drew1 | refine below_set ?_ GE137.out) | exact HB.out))) : w.heap.size ≤ gb143)); have n4_ := Aside0.mk ((by rw [hg]; exact (below_size (by repeat (first | (with_reducible first | exact HB.out | apply below_alloc | apply pw_below_drewN | apply below_drew1 | refine below_set ?_ GE137.out) | exact HB.out))) : w.heap.size ≤ gb143)); have n5_ := Aside0.mk ((by rw [hg]; exact Nat.ne_of_lt (blk_lt (g := gb137) (o := .cells #[.int .i64 a1_0, .int .i64 a1_1] 23 (0, 0)) (by (with_reducible repeat (first | refine blk_drewN ?_ _ | refine blk_drew ?_ | refine blk_alloc ?_ _)); exact BK137.out)) : gb137 ≠ gb143)); have n6_ := Aside0.mk ((by rw [hg]; exact Nat.ne_of_gt (blk_lt (g := gb137) (o := .cells #[.int .i64 a1_0, .int .i64 a1_1] 23 (0, 0)) (by (with_reducible repeat (first | refine blk_drewN ?_ _ | refine blk_drew ?_ | refine blk_alloc ?_ _)); exact BK137.out)) : gb143 ≠ gb137)); clear BK137; clear HB; have BK137 := n0_; have HB := n1_; have BK143 := n2_; have GW143 := n3_; have GE143 := n4_; have NB137_143 := n5_; have NB143_137 := n6_; clear n0_ n1_ n2_ n3_ n4_ n5_ n6_; clear hb hbox hg; have hnb18 := NB143_137.out; have hnc18 := NB137_143.out; have hcz19_0 : w17.cell? ⟨gb143, 0, none⟩ = some (.int .i64 0) := (blk_cell BK143.out 0).trans rfl; have hcz19_1 : w17.cell? ⟨gb143, 1, none⟩ = some (.int .i64 0) := (blk_cell BK143.out 1).trans rfl; have hfz19_0 := blk_frozen BK143.out 0; have hfz19_1 := blk_frozen BK143.out 1))
      (try simp only [Act.put, List.setIfInBounds_toArray, List.set_cons_zero, List.set_cons_succ])
      go_cut [48] (fun v48 wc => ∃ (kq : Nat) (x48_10 : Bool), v48 = .bool x48_10 ∧ Aside0 (scrimlaw08_ValueBack.j0 kq a0 a2 x48_10 = some r) ∧ Aside0 (kq ≤ k) ∧ Aside0 (wc.heap[gb137]? = some (.cells #[.int .i64 a1_0, .int .i64 a1_1] 23 (0, 0))) ∧ Aside0 (wc.heap[gb143]? = some (.cells #[.int .i64 t140, .int .i64 t141] 23 (0, 0))) ∧ Aside0 (Below w.heap.size w wc))
      case first =>
        have H := HC11.out
        clear HC11
        replace H := Option.bind_eq_some_iff.mp H
        obtain ⟨t144, A200, H⟩ := H
        replace H : (if (t144 != t142) = true then (scrimlaw08_ValueBack.j0 k a0 a2 true) else (if t142 = true then (if (!(t140 == a1_0) || (!(t141 == a1_1))) = true then (scrimlaw08_ValueBack.j0 k a0 a2 true) else (scrimlaw08_ValueBack.j0 k a0 a2 false)) else (scrimlaw08_ValueBack.j0 k a0 a2 (t139.toList != ([] : List UInt8))))) = some r := H
        have A20 := Aside0.mk A200
        clear A200
        by_cases c21 : (t144 != t142) = true
        · rw [if_pos c21] at H
          have c21b0 : (t144 != t142) = true := c21
          (try (have c21b1 : decide (t144 = t142) = false := by simpa using c21))
          (try (have c21b2 : (t144 == t142) = false := by simpa using c21))
          (try (have c21b3 : ¬ (t144 = t142) := by simpa using c21))
          clear c21
          (first | rw [c21b0] | (simp only [i64_w, i32_w]; rw [c21b0]) | skip)
          have H' := Aside0.mk H
          clear H
          have hnb22 := NB137_143.out
          have hnc22 := NB143_137.out
          have hcz23_0 : w17.cell? ⟨gb137, 0, none⟩ = some (.int .i64 a1_0) := (blk_cell BK137.out 0).trans rfl
          have hcz23_1 : w17.cell? ⟨gb137, 1, none⟩ = some (.int .i64 a1_1) := (blk_cell BK137.out 1).trans rfl
          have hfz23_0 := blk_frozen BK137.out 0
          have hfz23_1 := blk_frozen BK137.out 1
          go_wp2_with (first | ((with_reducible refine gate_callee (f := 16) rfl ?_); refine goesL_ (some 30) rfl rfl Tryd.func16 (by kernel_rfl) rfl #[.int .i64 a0, .agg #[.int .i64 a1_0, .int .i64 a1_1]] rfl (by (try simp only [List.map_toArray, List.map_cons, List.map_nil]); first | done | rfl | (simp only [List.length_drop, List.length_take]; rfl)) ?_; (with_reducible refine (value_May.calls a0 a1_0 a1_1 t144 _ A20.out).mono ?_); rintro e w24 ⟨rfl, hb⟩; refine ⟨_, rfl, ?_⟩; have n0_ := Aside0.mk (blk_below (g := gb137) (o := .cells #[.int .i64 a1_0, .int .i64 a1_1] 23 (0, 0)) (by (with_reducible repeat (first | refine blk_drewN ?_ _ | refine blk_drew ?_ | refine blk_alloc ?_ _)); refine blk_far ?_ NB137_143.out _; (with_reducible repeat (first | refine blk_drewN ?_ _ | refine blk_drew ?_ | refine blk_alloc ?_ _)); refine blk_far ?_ NB137_143.out _; (with_reducible repeat (first | refine blk_drewN ?_ _ | refine blk_drew ?_ | refine blk_alloc ?_ _)); exact BK137.out) hb); have n1_ := Aside0.mk (blk_below (g := gb143) (o := .cells #[.int .i64 t140, .int .i64 t141] 23 (0, 0)) (by (with_reducible repeat (first | refine blk_drewN ?_ _ | refine blk_drew ?_ | refine blk_alloc ?_ _)); refine blk_put (cs := #[.int .i64 t140, .int .i64 0]) ?_ 1 _ rfl; (with_reducible repeat (first | refine blk_drewN ?_ _ | refine blk_drew ?_ | refine blk_alloc ?_ _)); refine blk_put (cs := #[.int .i64 0, .int .i64 0]) ?_ 0 _ rfl; (with_reducible repeat (first | refine blk_drewN ?_ _ | refine blk_drew ?_ | refine blk_alloc ?_ _)); exact BK143.out) hb); have n2_ := Aside0.mk (below_step (by repeat (first | (with_reducible first | exact HB.out | apply below_alloc | apply pw_below_drewN | apply below_drew1 | refine below_set ?_ GE137.out | refine below_set ?_ GE143.out) | exact HB.out)) hb); clear BK137; clear BK143; clear HB; have BK137 := n0_; have BK143 := n1_; have HB := n2_; clear n0_ n1_ n2_; (try clear hb); (try clear hb2); (try clear hk); (try clear hi)))
          go_meet
          case rel => exact ⟨_, (true), (by first | rfl | (simp; done) | (simp [*]; done) | exact congrArg _ (by generalize ByteArray.toList _ = l; cases l <;> rfl) | (generalize ByteArray.toList _ = l; cases l <;> rfl)), H', ⟨by first | omega | exact Nat.le_refl _⟩, ⟨by (with_reducible repeat (first | refine blk_drewN ?_ _ | refine blk_drew ?_ | refine blk_alloc ?_ _)); exact BK137.out⟩, ⟨by (with_reducible repeat (first | refine blk_drewN ?_ _ | refine blk_drew ?_ | refine blk_alloc ?_ _)); exact BK143.out⟩, ⟨by repeat (first | (with_reducible first | exact HB.out | apply below_alloc | apply pw_below_drewN | apply below_drew1 | refine below_set ?_ GE137.out | refine below_set ?_ GE143.out) | exact HB.out)⟩⟩
        · rw [if_neg c21] at H
          have c21b0 : (t144 != t142) = false := by simpa using c21
          (try (have c21b1 : decide (t144 = t142) = true := by simpa using c21))
          (try (have c21b2 : (t144 == t142) = true := by simpa using c21))
          clear c21
          (first | rw [c21b0] | (simp only [i64_w, i32_w]; rw [c21b0]) | skip)
          by_cases c25 : t142 = true
          · subst c25
            have H1 : (if (!(t140 == a1_0) || (!(t141 == a1_1))) = true then (scrimlaw08_ValueBack.j0 k a0 a2 true) else (scrimlaw08_ValueBack.j0 k a0 a2 false)) = some r := by rw [if_pos rfl] at H; exact H
            clear H
            have H := H1
            clear H1
            by_cases c26 : (!(t140 == a1_0) || (!(t141 == a1_1))) = true
            · rw [if_pos c26] at H
              have c26b0 : (!(t140 == a1_0) || (!(t141 == a1_1))) = true := c26
              clear c26
              have H' := Aside0.mk H
              clear H
              have hnb27 := NB137_143.out
              have hnc27 := NB143_137.out
              have hcz28_0 : w17.cell? ⟨gb137, 0, none⟩ = some (.int .i64 a1_0) := (blk_cell BK137.out 0).trans rfl
              have hcz28_1 : w17.cell? ⟨gb137, 1, none⟩ = some (.int .i64 a1_1) := (blk_cell BK137.out 1).trans rfl
              have hfz28_0 := blk_frozen BK137.out 0
              have hfz28_1 := blk_frozen BK137.out 1
              go_wp2_with (first | ((with_reducible refine gate_callee (f := 16) rfl ?_); refine goesL_ (some 30) rfl rfl Tryd.func16 (by kernel_rfl) rfl #[.int .i64 a0, .agg #[.int .i64 a1_0, .int .i64 a1_1]] rfl (by (try simp only [List.map_toArray, List.map_cons, List.map_nil]); first | done | rfl | (simp only [List.length_drop, List.length_take]; rfl)) ?_; (with_reducible refine (value_May.calls a0 a1_0 a1_1 t144 _ A20.out).mono ?_); rintro e w29 ⟨rfl, hb⟩; refine ⟨_, rfl, ?_⟩; have n0_ := Aside0.mk (blk_below (g := gb137) (o := .cells #[.int .i64 a1_0, .int .i64 a1_1] 23 (0, 0)) (by (with_reducible repeat (first | refine blk_drewN ?_ _ | refine blk_drew ?_ | refine blk_alloc ?_ _)); refine blk_far ?_ NB137_143.out _; (with_reducible repeat (first | refine blk_drewN ?_ _ | refine blk_drew ?_ | refine blk_alloc ?_ _)); refine blk_far ?_ NB137_143.out _; (with_reducible repeat (first | refine blk_drewN ?_ _ | refine blk_drew ?_ | refine blk_alloc ?_ _)); exact BK137.out) hb); have n1_ := Aside0.mk (blk_below (g := gb143) (o := .cells #[.int .i64 t140, .int .i64 t141] 23 (0, 0)) (by (with_reducible repeat (first | refine blk_drewN ?_ _ | refine blk_drew ?_ | refine blk_alloc ?_ _)); refine blk_put (cs := #[.int .i64 t140, .int .i64 0]) ?_ 1 _ rfl; (with_reducible repeat (first | refine blk_drewN ?_ _ | refine blk_drew ?_ | refine blk_alloc ?_ _)); refine blk_put (cs := #[.int .i64 0, .int .i64 0]) ?_ 0 _ rfl; (with_reducible repeat (first | refine blk_drewN ?_ _ | refine blk_drew ?_ | refine blk_alloc ?_ _)); exact BK143.out) hb); have n2_ := Aside0.mk (below_step (by repeat (first | (with_reducible first | exact HB.out | apply below_alloc | apply pw_below_drewN | apply below_drew1 | refine below_set ?_ GE137.out | refine below_set ?_ GE143.out) | exact HB.out)) hb); clear BK137; clear BK143; clear HB; have BK137 := n0_; have BK143 := n1_; have HB := n2_; clear n0_ n1_ n2_; (try clear hb); (try clear hb2); (try clear hk); (try clear hi); have hcz30_0 : w29.cell? ⟨gb143, 0, none⟩ = some (.int .i64 t140) := (blk_cell BK143.out 0).trans rfl; have hcz30_1 : w29.cell? ⟨gb143, 1, none⟩ = some (.int .i64 t141) := (blk_cell BK143.out 1).trans rfl; have hfz30_0 := blk_frozen BK143.out 0; have hfz30_1 := blk_frozen BK143.out 1; have hcz31_0 : w29.cell? ⟨gb137, 0, none⟩ = some (.int .i64 a1_0) := (blk_cell BK137.out 0).trans rfl; have hcz31_1 : w29.cell? ⟨gb137, 1, none⟩ = some (.int .i64 a1_1) := (blk_cell BK137.out 1).trans rfl; have hfz31_0 := blk_frozen BK137.out 0; have hfz31_1 := blk_frozen BK137.out 1))
              go_meet
              case rel => exact ⟨_, (true), (by first | rfl | (simp; done) | (simp [*]; done) | exact congrArg _ (by generalize ByteArray.toList _ = l; cases l <;> rfl) | (generalize ByteArray.toList _ = l; cases l <;> rfl)), H', ⟨by first | omega | exact Nat.le_refl _⟩, ⟨by (with_reducible repeat (first | refine blk_drewN ?_ _ | refine blk_drew ?_ | refine blk_alloc ?_ _)); exact BK137.out⟩, ⟨by (with_reducible repeat (first | refine blk_drewN ?_ _ | refine blk_drew ?_ | refine blk_alloc ?_ _)); exact BK143.out⟩, ⟨by repeat (first | (with_reducible first | exact HB.out | apply below_alloc | apply pw_below_drewN | apply below_drew1 | refine below_set ?_ GE137.out | refine below_set ?_ GE143.out) | exact HB.out)⟩⟩
            · rw [if_neg c26] at H
              have c26b0 : (!(t140 == a1_0) || (!(t141 == a1_1))) = false := by simpa using c26
              clear c26
              have H' := Aside0.mk H
              clear H
              have hnb32 := NB137_143.out
              have hnc32 := NB143_137.out
              have hcz33_0 : w17.cell? ⟨gb137, 0, none⟩ = some (.int .i64 a1_0) := (blk_cell BK137.out 0).trans rfl
              have hcz33_1 : w17.cell? ⟨gb137, 1, none⟩ = some (.int .i64 a1_1) := (blk_cell BK137.out 1).trans rfl
              have hfz33_0 := blk_frozen BK137.out 0
              have hfz33_1 := blk_frozen BK137.out 1
              go_wp2_with (first | ((with_reducible refine gate_callee (f := 16) rfl ?_); refine goesL_ (some 30) rfl rfl Tryd.func16 (by kernel_rfl) rfl #[.int .i64 a0, .agg #[.int .i64 a1_0, .int .i64 a1_1]] rfl (by (try simp only [List.map_toArray, List.map_cons, List.map_nil]); first | done | rfl | (simp only [List.length_drop, List.length_take]; rfl)) ?_; (with_reducible refine (value_May.calls a0 a1_0 a1_1 t144 _ A20.out).mono ?_); rintro e w34 ⟨rfl, hb⟩; refine ⟨_, rfl, ?_⟩; have n0_ := Aside0.mk (blk_below (g := gb137) (o := .cells #[.int .i64 a1_0, .int .i64 a1_1] 23 (0, 0)) (by (with_reducible repeat (first | refine blk_drewN ?_ _ | refine blk_drew ?_ | refine blk_alloc ?_ _)); refine blk_far ?_ NB137_143.out _; (with_reducible repeat (first | refine blk_drewN ?_ _ | refine blk_drew ?_ | refine blk_alloc ?_ _)); refine blk_far ?_ NB137_143.out _; (with_reducible repeat (first | refine blk_drewN ?_ _ | refine blk_drew ?_ | refine blk_alloc ?_ _)); exact BK137.out) hb); have n1_ := Aside0.mk (blk_below (g := gb143) (o := .cells #[.int .i64 t140, .int .i64 t141] 23 (0, 0)) (by (with_reducible repeat (first | refine blk_drewN ?_ _ | refine blk_drew ?_ | refine blk_alloc ?_ _)); refine blk_put (cs := #[.int .i64 t140, .int .i64 0]) ?_ 1 _ rfl; (with_reducible repeat (first | refine blk_drewN ?_ _ | refine blk_drew ?_ | refine blk_alloc ?_ _)); refine blk_put (cs := #[.int .i64 0, .int .i64 0]) ?_ 0 _ rfl; (with_reducible repeat (first | refine blk_drewN ?_ _ | refine blk_drew ?_ | refine blk_alloc ?_ _)); exact BK143.out) hb); have n2_ := Aside0.mk (below_step (by repeat (first | (with_reducible first | exact HB.out | apply below_alloc | apply pw_below_drewN | apply below_drew1 | refine below_set ?_ GE137.out | refine below_set ?_ GE143.out) | exact HB.out)) hb); clear BK137; clear BK143; clear HB; have BK137 := n0_; have BK143 := n1_; have HB := n2_; clear n0_ n1_ n2_; (try clear hb); (try clear hb2); (try clear hk); (try clear hi); have hcz35_0 : w34.cell? ⟨gb143, 0, none⟩ = some (.int .i64 t140) := (blk_cell BK143.out 0).trans rfl; have hcz35_1 : w34.cell? ⟨gb143, 1, none⟩ = some (.int .i64 t141) := (blk_cell BK143.out 1).trans rfl; have hfz35_0 := blk_frozen BK143.out 0; have hfz35_1 := blk_frozen BK143.out 1; have hcz36_0 : w34.cell? ⟨gb137, 0, none⟩ = some (.int .i64 a1_0) := (blk_cell BK137.out 0).trans rfl; have hcz36_1 : w34.cell? ⟨gb137, 1, none⟩ = some (.int .i64 a1_1) := (blk_cell BK137.out 1).trans rfl; have hfz36_0 := blk_frozen BK137.out 0; have hfz36_1 := blk_frozen BK137.out 1))
              go_meet
              case rel => exact ⟨_, (false), (by first | rfl | (simp; done) | (simp [*]; done) | exact congrArg _ (by generalize ByteArray.toList _ = l; cases l <;> rfl) | (generalize ByteArray.toList _ = l; cases l <;> rfl)), H', ⟨by first | omega | exact Nat.le_refl _⟩, ⟨by (with_reducible repeat (first | refine blk_drewN ?_ _ | refine blk_drew ?_ | refine blk_alloc ?_ _)); exact BK137.out⟩, ⟨by (with_reducible repeat (first | refine blk_drewN ?_ _ | refine blk_drew ?_ | refine blk_alloc ?_ _)); exact BK143.out⟩, ⟨by repeat (first | (with_reducible first | exact HB.out | apply below_alloc | apply pw_below_drewN | apply below_drew1 | refine below_set ?_ GE137.out | refine below_set ?_ GE143.out) | exact HB.out)⟩⟩
          · replace c25 := Bool.eq_false_iff.mpr c25
            subst c25
            have H1 : (scrimlaw08_ValueBack.j0 k a0 a2 (t139.toList != ([] : List UInt8))) = some r := by rw [if_neg (show ¬ (false = true) by decide)] at H; exact H
            clear H
            have H := H1
            clear H1
            have H' := Aside0.mk H
            clear H
            have hnb37 := NB137_143.out
            have hnc37 := NB143_137.out
            have hcz38_0 : w17.cell? ⟨gb137, 0, none⟩ = some (.int .i64 a1_0) := (blk_cell BK137.out 0).trans rfl
            have hcz38_1 : w17.cell? ⟨gb137, 1, none⟩ = some (.int .i64 a1_1) := (blk_cell BK137.out 1).trans rfl
            have hfz38_0 := blk_frozen BK137.out 0
            have hfz38_1 := blk_frozen BK137.out 1
            go_wp2_with (first | ((with_reducible refine gate_callee (f := 16) rfl ?_); refine goesL_ (some 30) rfl rfl Tryd.func16 (by kernel_rfl) rfl #[.int .i64 a0, .agg #[.int .i64 a1_0, .int .i64 a1_1]] rfl (by (try simp only [List.map_toArray, List.map_cons, List.map_nil]); first | done | rfl | (simp only [List.length_drop, List.length_take]; rfl)) ?_; (with_reducible refine (value_May.calls a0 a1_0 a1_1 t144 _ A20.out).mono ?_); rintro e w39 ⟨rfl, hb⟩; refine ⟨_, rfl, ?_⟩; have n0_ := Aside0.mk (blk_below (g := gb137) (o := .cells #[.int .i64 a1_0, .int .i64 a1_1] 23 (0, 0)) (by (with_reducible repeat (first | refine blk_drewN ?_ _ | refine blk_drew ?_ | refine blk_alloc ?_ _)); refine blk_far ?_ NB137_143.out _; (with_reducible repeat (first | refine blk_drewN ?_ _ | refine blk_drew ?_ | refine blk_alloc ?_ _)); refine blk_far ?_ NB137_143.out _; (with_reducible repeat (first | refine blk_drewN ?_ _ | refine blk_drew ?_ | refine blk_alloc ?_ _)); exact BK137.out) hb); have n1_ := Aside0.mk (blk_below (g := gb143) (o := .cells #[.int .i64 t140, .int .i64 t141] 23 (0, 0)) (by (with_reducible repeat (first | refine blk_drewN ?_ _ | refine blk_drew ?_ | refine blk_alloc ?_ _)); refine blk_put (cs := #[.int .i64 t140, .int .i64 0]) ?_ 1 _ rfl; (with_reducible repeat (first | refine blk_drewN ?_ _ | refine blk_drew ?_ | refine blk_alloc ?_ _)); refine blk_put (cs := #[.int .i64 0, .int .i64 0]) ?_ 0 _ rfl; (with_reducible repeat (first | refine blk_drewN ?_ _ | refine blk_drew ?_ | refine blk_alloc ?_ _)); exact BK143.out) hb); have n2_ := Aside0.mk (below_step (by repeat (first | (with_reducible first | exact HB.out | apply below_alloc | apply pw_below_drewN | apply below_drew1 | refine below_set ?_ GE137.out | refine below_set ?_ GE143.out) | exact HB.out)) hb); clear BK137; clear BK143; clear HB; have BK137 := n0_; have BK143 := n1_; have HB := n2_; clear n0_ n1_ n2_; (try clear hb); (try clear hb2); (try clear hk); (try clear hi)))
            go_meet
            case rel => exact ⟨_, ((t139.toList != ([] : List UInt8))), (by first | rfl | (simp; done) | (simp [*]; done) | exact congrArg _ (by generalize ByteArray.toList _ = l; cases l <;> rfl) | (generalize ByteArray.toList _ = l; cases l <;> rfl)), H', ⟨by first | omega | exact Nat.le_refl _⟩, ⟨by (with_reducible repeat (first | refine blk_drewN ?_ _ | refine blk_drew ?_ | refine blk_alloc ?_ _)); exact BK137.out⟩, ⟨by (with_reducible repeat (first | refine blk_drewN ?_ _ | refine blk_drew ?_ | refine blk_alloc ?_ _)); exact BK143.out⟩, ⟨by repeat (first | (with_reducible first | exact HB.out | apply below_alloc | apply pw_below_drewN | apply below_drew1 | refine below_set ?_ GE137.out | refine below_set ?_ GE143.out) | exact HB.out)⟩⟩
      case rest =>
        clear HC11
        try clear c1
        try clear c2
        try clear p2
        try clear c3
        try clear c4
        try clear c5
        try clear c6
        try clear c6b0
        try clear c6b1
        try clear c13
        try clear c14
        try clear c15
        try clear c16
        try clear c18
        try clear c21
        try clear c21b0
        try clear c21b1
        try clear c21b2
        try clear c22
        try clear c25
        try clear c26
        try clear c26b0
        try clear c27
        try clear c32
        try clear c37
        try clear hcz14_0
        try clear hcz14_1
        try clear hcz19_0
        try clear hcz19_1
        try clear hcz23_0
        try clear hcz23_1
        try clear hcz28_0
        try clear hcz28_1
        try clear hcz30_0
        try clear hcz30_1
        try clear hcz31_0
        try clear hcz31_1
        try clear hcz33_0
        try clear hcz33_1
        try clear hcz35_0
        try clear hcz35_1
        try clear hcz36_0
        try clear hcz36_1
        try clear hcz38_0
        try clear hcz38_1
        try clear hfz14_0
        try clear hfz14_1
        try clear hfz19_0
        try clear hfz19_1
        try clear hfz23_0
        try clear hfz23_1
        try clear hfz28_0
        try clear hfz28_1
        try clear hfz30_0
        try clear hfz30_1
        try clear hfz31_0
        try clear hfz31_1
        try clear hfz33_0
        try clear hfz33_1
        try clear hfz35_0
        try clear hfz35_1
        try clear hfz36_0
        try clear hfz36_1
        try clear hfz38_0
        try clear hfz38_1
        obtain ⟨kq, x48_10, rfl, HA, HJ10, BK137, BK143, HB⟩ := hcut
        cases kq with
        | zero => exact absurd HA.out (by simp [scrimlaw08_ValueBack.j0])
        | succ kj10 =>
          have H := HA.out
          clear HA
          simp only [scrimlaw08_ValueBack.j0] at H
          by_cases c40 : x48_10 = true
          · subst c40
            have H1 : (some false) = some r := by rw [if_pos rfl] at H; exact H
            clear H
            have H := H1
            clear H1
            exact absurd ((Option.some.inj H).trans hrt) (by decide)
          · replace c40 := Bool.eq_false_iff.mpr c40
            subst c40
            have H1 : ((value_Read.f a0 a2).bind fun bt145 => (if bt145.2.2 = true then ((value_Print.f a0 bt145.1 bt145.2.1).bind fun t149 => ((value_Read.f a0 t149).bind fun bt150 => ((value_May.f a0 bt145.1 bt145.2.1).bind fun t154 => (if t154 = true then (if bt150.2.2 = true then (some (bt150.1 == bt145.1 && (bt150.2.1 == bt145.2.1))) else (some false)) else (some false))))) else (some (bt145.1 == 0 && (bt145.2.1 == 0))))) = some r := by rw [if_neg (show ¬ (false = true) by decide)] at H; exact H
            clear H
            have H := H1
            clear H1
            replace H := Option.bind_eq_some_iff.mp H
            obtain ⟨⟨t145, t146, t147⟩, A410, H⟩ := H
            replace H : (if t147 = true then ((value_Print.f a0 t145 t146).bind fun t149 => ((value_Read.f a0 t149).bind fun bt150 => ((value_May.f a0 t145 t146).bind fun t154 => (if t154 = true then (if bt150.2.2 = true then (some (bt150.1 == t145 && (bt150.2.1 == t146))) else (some false)) else (some false))))) else (some (t145 == 0 && (t146 == 0)))) = some r := H
            have A41 := Aside0.mk A410
            clear A410
            by_cases c42 : t147 = true
            · subst c42
              have H1 : ((value_Print.f a0 t145 t146).bind fun t149 => ((value_Read.f a0 t149).bind fun bt150 => ((value_May.f a0 t145 t146).bind fun t154 => (if t154 = true then (if bt150.2.2 = true then (some (bt150.1 == t145 && (bt150.2.1 == t146))) else (some false)) else (some false))))) = some r := by rw [if_pos rfl] at H; exact H
              clear H
              have H := H1
              clear H1
              replace H := Option.bind_eq_some_iff.mp H
              obtain ⟨t149, A430, H⟩ := H
              replace H : ((value_Read.f a0 t149).bind fun bt150 => ((value_May.f a0 t145 t146).bind fun t154 => (if t154 = true then (if bt150.2.2 = true then (some (bt150.1 == t145 && (bt150.2.1 == t146))) else (some false)) else (some false)))) = some r := H
              have A43 := Aside0.mk A430
              clear A430
              replace H := Option.bind_eq_some_iff.mp H
              obtain ⟨⟨t150, t151, t152⟩, A440, H⟩ := H
              replace H : ((value_May.f a0 t145 t146).bind fun t154 => (if t154 = true then (if t152 = true then (some (t150 == t145 && (t151 == t146))) else (some false)) else (some false))) = some r := H
              have A44 := Aside0.mk A440
              clear A440
              replace H := Option.bind_eq_some_iff.mp H
              obtain ⟨t154, A450, H⟩ := H
              replace H : (if t154 = true then (if t152 = true then (some (t150 == t145 && (t151 == t146))) else (some false)) else (some false)) = some r := H
              have A45 := Aside0.mk A450
              clear A450
              by_cases c46 : t154 = true
              · subst c46
                have H1 : (if t152 = true then (some (t150 == t145 && (t151 == t146))) else (some false)) = some r := by rw [if_pos rfl] at H; exact H
                clear H
                have H := H1
                clear H1
                by_cases c47 : t152 = true
                · subst c47
                  have H1 : (some (t150 == t145 && (t151 == t146))) = some r := by rw [if_pos rfl] at H; exact H
                  clear H
                  have H := H1
                  clear H1
                  obtain rfl := Option.some.inj H; clear hrt; try clear H
                  go_wp2_with (first | ((with_reducible refine gate_callee (f := 15) rfl ?_); refine goesL_ (some 52) rfl rfl Tryd.func15 (by kernel_rfl) rfl #[.int .i64 a0, .string a2] rfl (by (try simp only [List.map_toArray, List.map_cons, List.map_nil]); first | done | rfl | (simp only [List.length_drop, List.length_take]; rfl)) ?_; (with_reducible refine (value_Read.calls a0 a2 t145 t146 true _ A41.out).mono ?_); rintro e w48 ⟨rfl, hb⟩; refine ⟨_, rfl, ?_⟩; have n0_ := Aside0.mk (blk_below (g := gb137) (o := .cells #[.int .i64 a1_0, .int .i64 a1_1] 23 (0, 0)) (by (with_reducible repeat (first | refine blk_drewN ?_ _ | refine blk_drew ?_ | refine blk_alloc ?_ _)); exact BK137.out) hb); have n1_ := Aside0.mk (blk_below (g := gb143) (o := .cells #[.int .i64 t140, .int .i64 t141] 23 (0, 0)) (by (with_reducible repeat (first | refine blk_drewN ?_ _ | refine blk_drew ?_ | refine blk_alloc ?_ _)); exact BK143.out) hb); have n2_ := Aside0.mk (below_step (by repeat (first | (with_reducible first | exact HB.out | apply below_alloc | apply pw_below_drewN | apply below_drew1 | refine below_set ?_ GE137.out | refine below_set ?_ GE143.out) | exact HB.out)) hb); clear BK137; clear BK143; clear HB; have BK137 := n0_; have BK143 := n1_; have HB := n2_; clear n0_ n1_ n2_; (try clear hb); (try clear hb2); (try clear hk); (try clear hi)) | ((with_reducible refine gate_dst (N := 10) rfl ?_); refine box_event ?hg (N := 10) ?hd (cs := #[.int .i64 0, .int .i64 0]) (t := 23) ?hr ?_; (case hd => rfl); (case hg => rfl); (case hr => first | (go_simp; done) | (go_simp; rfl)); intro gb148 hg w49 hbox hb; have n0_ := Aside0.mk (blk_below (g := gb137) (o := .cells #[.int .i64 a1_0, .int .i64 a1_1] 23 (0, 0)) (by (with_reducible repeat (first | refine blk_drewN ?_ _ | refine blk_drew ?_ | refine blk_alloc ?_ _)); exact BK137.out) hb); have n1_ := Aside0.mk (blk_below (g := gb143) (o := .cells #[.int .i64 t140, .int .i64 t141] 23 (0, 0)) (by (with_reducible repeat (first | refine blk_drewN ?_ _ | refine blk_drew ?_ | refine blk_alloc ?_ _)); exact BK143.out) hb); have n2_ := Aside0.mk (below_step (by repeat (first | (with_reducible first | exact HB.out | apply below_alloc | apply pw_below_drewN | apply below_drew1 | refine below_set ?_ GE137.out | refine below_set ?_ GE143.out) | exact HB.out)) hb); have n3_ := Aside0.mk (hbox); have n4_ := Aside0.mk ((by rw [hg]; exact (below_size (by repeat (first | (with_reducible first | exact HB.out | apply below_alloc | apply pw_below_drewN | apply below_drew1 | refine below_set ?_ GE137.out | refine below_set ?_ GE143.out) | exact HB.out))) : w.heap.size ≤ gb148)); have n5_ := Aside0.mk ((by rw [hg]; exact (below_size (by repeat (first | (with_reducible first | exact HB.out | apply below_alloc | apply pw_below_drewN | apply below_drew1 | refine below_set ?_ GE137.out | refine below_set ?_ GE143.out) | exact HB.out))) : w.heap.size ≤ gb148)); have n6_ := Aside0.mk ((by rw [hg]; exact Nat.ne_of_lt (blk_lt (g := gb137) (o := .cells #[.int .i64 a1_0, .int .i64 a1_1] 23 (0, 0)) (by (with_reducible repeat (first | refine blk_drewN ?_ _ | refine blk_drew ?_ | refine blk_alloc ?_ _)); exact BK137.out)) : gb137 ≠ gb148)); have n7_ := Aside0.mk ((by rw [hg]; exact Nat.ne_of_gt (blk_lt (g := gb137) (o := .cells #[.int .i64 a1_0, .int .i64 a1_1] 23 (0, 0)) (by (with_reducible repeat (first | refine blk_drewN ?_ _ | refine blk_drew ?_ | refine blk_alloc ?_ _)); exact BK137.out)) : gb148 ≠ gb137)); have n8_ := Aside0.mk ((by rw [hg]; exact Nat.ne_of_lt (blk_lt (g := gb143) (o := .cells #[.int .i64 t140, .int .i64 t141] 23 (0, 0)) (by (with_reducible repeat (first | refine blk_drewN ?_ _ | refine blk_drew ?_ | refine blk_alloc ?_ _)); exact BK143.out)) : gb143 ≠ gb148)); have n9_ := Aside0.mk ((by rw [hg]; exact Nat.ne_of_gt (blk_lt (g := gb143) (o := .cells #[.int .i64 t140, .int .i64 t141] 23 (0, 0)) (by (with_reducible repeat (first | refine blk_drewN ?_ _ | refine blk_drew ?_ | refine blk_alloc ?_ _)); exact BK143.out)) : gb148 ≠ gb143)); clear BK137; clear BK143; clear HB; have BK137 := n0_; have BK143 := n1_; have HB := n2_; have BK148 := n3_; have GW148 := n4_; have GE148 := n5_; have NB137_148 := n6_; have NB148_137 := n7_; have NB143_148 := n8_; have NB148_143 := n9_; clear n0_ n1_ n2_ n3_ n4_ n5_ n6_ n7_ n8_ n9_; clear hb hbox hg; have hnb50 := NB148_137.out; have hnc50 := NB137_148.out; have hnb51 := NB148_143.out; have hnc51 := NB143_148.out; have hcz52_0 : w49.cell? ⟨gb148, 0, none⟩ = some (.int .i64 0) := (blk_cell BK148.out 0).trans rfl; have hcz52_1 : w49.cell? ⟨gb148, 1, none⟩ = some (.int .i64 0) := (blk_cell BK148.out 1).trans rfl; have hfz52_0 := blk_frozen BK148.out 0; have hfz52_1 := blk_frozen BK148.out 1) | ((with_reducible refine gate_callee (f := 14) rfl ?_); refine goesL_ (some 64) rfl rfl Tryd.func14 (by kernel_rfl) rfl #[.int .i64 a0, .agg #[.int .i64 t145, .int .i64 t146]] rfl (by (try simp only [List.map_toArray, List.map_cons, List.map_nil]); first | done | rfl | (simp only [List.length_drop, List.length_take]; rfl)) ?_; (with_reducible refine (value_Print.calls a0 t145 t146 t149 _ A43.out (HMX.out.below (by repeat (first | (with_reducible first | exact HB.out | apply below_alloc | apply pw_below_drewN | apply below_drew1 | refine below_set ?_ GE137.out | refine below_set ?_ GE143.out | refine below_set ?_ GE148.out | refine below_set ?_ GE153.out) | exact HB.out)))).mono ?_); rintro e w53 ⟨rfl, hb⟩; refine ⟨_, rfl, ?_⟩; have n0_ := Aside0.mk (blk_below (g := gb137) (o := .cells #[.int .i64 a1_0, .int .i64 a1_1] 23 (0, 0)) (by (with_reducible repeat (first | refine blk_drewN ?_ _ | refine blk_drew ?_ | refine blk_alloc ?_ _)); refine blk_far ?_ NB137_148.out _; (with_reducible repeat (first | refine blk_drewN ?_ _ | refine blk_drew ?_ | refine blk_alloc ?_ _)); refine blk_far ?_ NB137_148.out _; (with_reducible repeat (first | refine blk_drewN ?_ _ | refine blk_drew ?_ | refine blk_alloc ?_ _)); exact BK137.out) hb); have n1_ := Aside0.mk (blk_below (g := gb143) (o := .cells #[.int .i64 t140, .int .i64 t141] 23 (0, 0)) (by (with_reducible repeat (first | refine blk_drewN ?_ _ | refine blk_drew ?_ | refine blk_alloc ?_ _)); refine blk_far ?_ NB143_148.out _; (with_reducible repeat (first | refine blk_drewN ?_ _ | refine blk_drew ?_ | refine blk_alloc ?_ _)); refine blk_far ?_ NB143_148.out _; (with_reducible repeat (first | refine blk_drewN ?_ _ | refine blk_drew ?_ | refine blk_alloc ?_ _)); exact BK143.out) hb); have n2_ := Aside0.mk (blk_below (g := gb148) (o := .cells #[.int .i64 t145, .int .i64 t146] 23 (0, 0)) (by (with_reducible repeat (first | refine blk_drewN ?_ _ | refine blk_drew ?_ | refine blk_alloc ?_ _)); refine blk_put (cs := #[.int .i64 t145, .int .i64 0]) ?_ 1 _ rfl; (with_reducible repeat (first | refine blk_drewN ?_ _ | refine blk_drew ?_ | refine blk_alloc ?_ _)); refine blk_put (cs := #[.int .i64 0, .int .i64 0]) ?_ 0 _ rfl; (with_reducible repeat (first | refine blk_drewN ?_ _ | refine blk_drew ?_ | refine blk_alloc ?_ _)); exact BK148.out) hb); have n3_ := Aside0.mk (below_step (by repeat (first | (with_reducible first | exact HB.out | apply below_alloc | apply pw_below_drewN | apply below_drew1 | refine below_set ?_ GE137.out | refine below_set ?_ GE143.out | refine below_set ?_ GE148.out) | exact HB.out)) hb); clear BK137; clear BK143; clear BK148; clear HB; have BK137 := n0_; have BK143 := n1_; have BK148 := n2_; have HB := n3_; clear n0_ n1_ n2_ n3_; (try clear hb); (try clear hb2); (try clear hk); (try clear hi)) | ((with_reducible refine gate_callee (f := 15) rfl ?_); refine goesL_ (some 65) rfl rfl Tryd.func15 (by kernel_rfl) rfl #[.int .i64 a0, .string t149] rfl (by (try simp only [List.map_toArray, List.map_cons, List.map_nil]); first | done | rfl | (simp only [List.length_drop, List.length_take]; rfl)) ?_; (with_reducible refine (value_Read.calls a0 t149 t150 t151 true _ A44.out).mono ?_); rintro e w54 ⟨rfl, hb⟩; refine ⟨_, rfl, ?_⟩; have n0_ := Aside0.mk (blk_below (g := gb137) (o := .cells #[.int .i64 a1_0, .int .i64 a1_1] 23 (0, 0)) (by (with_reducible repeat (first | refine blk_drewN ?_ _ | refine blk_drew ?_ | refine blk_alloc ?_ _)); exact BK137.out) hb); have n1_ := Aside0.mk (blk_below (g := gb143) (o := .cells #[.int .i64 t140, .int .i64 t141] 23 (0, 0)) (by (with_reducible repeat (first | refine blk_drewN ?_ _ | refine blk_drew ?_ | refine blk_alloc ?_ _)); exact BK143.out) hb); have n2_ := Aside0.mk (blk_below (g := gb148) (o := .cells #[.int .i64 t145, .int .i64 t146] 23 (0, 0)) (by (with_reducible repeat (first | refine blk_drewN ?_ _ | refine blk_drew ?_ | refine blk_alloc ?_ _)); exact BK148.out) hb); have n3_ := Aside0.mk (below_step (by repeat (first | (with_reducible first | exact HB.out | apply below_alloc | apply pw_below_drewN | apply below_drew1 | refine below_set ?_ GE137.out | refine below_set ?_ GE143.out | refine below_set ?_ GE148.out) | exact HB.out)) hb); clear BK137; clear BK143; clear BK148; clear HB; have BK137 := n0_; have BK143 := n1_; have BK148 := n2_; have HB := n3_; clear n0_ n1_ n2_ n3_; (try clear hb); (try clear hb2); (try clear hk); (try clear hi)) | ((with_reducible refine gate_dst (N := 12) rfl ?_); refine box_event ?hg (N := 12) ?hd (cs := #[.int .i64 0, .int .i64 0]) (t := 23) ?hr ?_; (case hd => rfl); (case hg => rfl); (case hr => first | (go_simp; done) | (go_simp; rfl)); intro gb153 hg w55 hbox hb; have n0_ := Aside0.mk (blk_below (g := gb137) (o := .cells #[.int .i64 a1_0, .int .i64 a1_1] 23 (0, 0)) (by (with_reducible repeat (first | refine blk_drewN ?_ _ | refine blk_drew ?_ | refine blk_alloc ?_ _)); exact BK137.out) hb); have n1_ := Aside0.mk (blk_below (g := gb143) (o := .cells #[.int .i64 t140, .int .i64 t141] 23 (0, 0)) (by (with_reducible repeat (first | refine blk_drewN ?_ _ | refine blk_drew ?_ | refine blk_alloc ?_ _)); exact BK143.out) hb); have n2_ := Aside0.mk (blk_below (g := gb148) (o := .cells #[.int .i64 t145, .int .i64 t146] 23 (0, 0)) (by (with_reducible repeat (first | refine blk_drewN ?_ _ | refine blk_drew ?_ | refine blk_alloc ?_ _)); exact BK148.out) hb); have n3_ := Aside0.mk (below_step (by repeat (first | (with_reducible first | exact HB.out | apply below_alloc | apply pw_below_drewN | apply below_drew1 | refine below_set ?_ GE137.out | refine below_set ?_ GE143.out | refine below_set ?_ GE148.out) | exact HB.out)) hb); have n4_ := Aside0.mk (hbox); have n5_ := Aside0.mk ((by rw [hg]; exact (below_size (by repeat (first | (with_reducible first | exact HB.out | apply below_alloc | apply pw_below_drewN | apply below_drew1 | refine below_set ?_ GE137.out | refine below_set ?_ GE143.out | refine below_set ?_ GE148.out) | exact HB.out))) : w.heap.size ≤ gb153)); have n6_ := Aside0.mk ((by rw [hg]; exact (below_size (by repeat (first | (with_reducible first | exact HB.out | apply below_alloc | apply pw_below_drewN | apply below_drew1 | refine below_set ?_ GE137.out | refine below_set ?_ GE143.out | refine below_set ?_ GE148.out) | exact HB.out))) : w.heap.size ≤ gb153)); have n7_ := Aside0.mk ((by rw [hg]; exact Nat.ne_of_lt (blk_lt (g := gb137) (o := .cells #[.int .i64 a1_0, .int .i64 a1_1] 23 (0, 0)) (by (with_reducible repeat (first | refine blk_drewN ?_ _ | refine blk_drew ?_ | refine blk_alloc ?_ _)); exact BK137.out)) : gb137 ≠ gb153)); have n8_ := Aside0.mk ((by rw [hg]; exact Nat.ne_of_gt (blk_lt (g := gb137) (o := .cells #[.int .i64 a1_0, .int .i64 a1_1] 23 (0, 0)) (by (with_reducible repeat (first | refine blk_drewN ?_ _ | refine blk_drew ?_ | refine blk_alloc ?_ _)); exact BK137.out)) : gb153 ≠ gb137)); have n9_ := Aside0.mk ((by rw [hg]; exact Nat.ne_of_lt (blk_lt (g := gb143) (o := .cells #[.int .i64 t140, .int .i64 t141] 23 (0, 0)) (by (with_reducible repeat (first | refine blk_drewN ?_ _ | refine blk_drew ?_ | refine blk_alloc ?_ _)); exact BK143.out)) : gb143 ≠ gb153)); have n10_ := Aside0.mk ((by rw [hg]; exact Nat.ne_of_gt (blk_lt (g := gb143) (o := .cells #[.int .i64 t140, .int .i64 t141] 23 (0, 0)) (by (with_reducible repeat (first | refine blk_drewN ?_ _ | refine blk_drew ?_ | refine blk_alloc ?_ _)); exact BK143.out)) : gb153 ≠ gb143)); have n11_ := Aside0.mk ((by rw [hg]; exact Nat.ne_of_lt (blk_lt (g := gb148) (o := .cells #[.int .i64 t145, .int .i64 t146] 23 (0, 0)) (by (with_reducible repeat (first | refine blk_drewN ?_ _ | refine blk_drew ?_ | refine blk_alloc ?_ _)); exact BK148.out)) : gb148 ≠ gb153)); have n12_ := Aside0.mk ((by rw [hg]; exact Nat.ne_of_gt (blk_lt (g := gb148) (o := .cells #[.int .i64 t145, .int .i64 t146] 23 (0, 0)) (by (with_reducible repeat (first | refine blk_drewN ?_ _ | refine blk_drew ?_ | refine blk_alloc ?_ _)); exact BK148.out)) : gb153 ≠ gb148)); clear BK137; clear BK143; clear BK148; clear HB; have BK137 := n0_; have BK143 := n1_; have BK148 := n2_; have HB := n3_; have BK153 := n4_; have GW153 := n5_; have GE153 := n6_; have NB137_153 := n7_; have NB153_137 := n8_; have NB143_153 := n9_; have NB153_143 := n10_; have NB148_153 := n11_; have NB153_148 := n12_; clear n0_ n1_ n2_ n3_ n4_ n5_ n6_ n7_ n8_ n9_ n10_ n11_ n12_; clear hb hbox hg; have hnb56 := NB153_137.out; have hnc56 := NB137_153.out; have hnb57 := NB153_143.out; have hnc57 := NB143_153.out; have hnb58 := NB153_148.out; have hnc58 := NB148_153.out; have hcz59_0 : w55.cell? ⟨gb153, 0, none⟩ = some (.int .i64 0) := (blk_cell BK153.out 0).trans rfl; have hcz59_1 : w55.cell? ⟨gb153, 1, none⟩ = some (.int .i64 0) := (blk_cell BK153.out 1).trans rfl; have hfz59_0 := blk_frozen BK153.out 0; have hfz59_1 := blk_frozen BK153.out 1; have hcz60_0 : w55.cell? ⟨gb148, 0, none⟩ = some (.int .i64 t145) := (blk_cell BK148.out 0).trans rfl; have hcz60_1 : w55.cell? ⟨gb148, 1, none⟩ = some (.int .i64 t146) := (blk_cell BK148.out 1).trans rfl; have hfz60_0 := blk_frozen BK148.out 0; have hfz60_1 := blk_frozen BK148.out 1) | ((with_reducible refine gate_callee (f := 16) rfl ?_); refine goesL_ (some 70) rfl rfl Tryd.func16 (by kernel_rfl) rfl #[.int .i64 a0, .agg #[.int .i64 t145, .int .i64 t146]] rfl (by (try simp only [List.map_toArray, List.map_cons, List.map_nil]); first | done | rfl | (simp only [List.length_drop, List.length_take]; rfl)) ?_; (with_reducible refine (value_May.calls a0 t145 t146 true _ A45.out).mono ?_); rintro e w61 ⟨rfl, hb⟩; refine ⟨_, rfl, ?_⟩; have n0_ := Aside0.mk (blk_below (g := gb137) (o := .cells #[.int .i64 a1_0, .int .i64 a1_1] 23 (0, 0)) (by (with_reducible repeat (first | refine blk_drewN ?_ _ | refine blk_drew ?_ | refine blk_alloc ?_ _)); refine blk_far ?_ NB137_153.out _; (with_reducible repeat (first | refine blk_drewN ?_ _ | refine blk_drew ?_ | refine blk_alloc ?_ _)); refine blk_far ?_ NB137_153.out _; (with_reducible repeat (first | refine blk_drewN ?_ _ | refine blk_drew ?_ | refine blk_alloc ?_ _)); exact BK137.out) hb); have n1_ := Aside0.mk (blk_below (g := gb143) (o := .cells #[.int .i64 t140, .int .i64 t141] 23 (0, 0)) (by (with_reducible repeat (first | refine blk_drewN ?_ _ | refine blk_drew ?_ | refine blk_alloc ?_ _)); refine blk_far ?_ NB143_153.out _; (with_reducible repeat (first | refine blk_drewN ?_ _ | refine blk_drew ?_ | refine blk_alloc ?_ _)); refine blk_far ?_ NB143_153.out _; (with_reducible repeat (first | refine blk_drewN ?_ _ | refine blk_drew ?_ | refine blk_alloc ?_ _)); exact BK143.out) hb); have n2_ := Aside0.mk (blk_below (g := gb148) (o := .cells #[.int .i64 t145, .int .i64 t146] 23 (0, 0)) (by (with_reducible repeat (first | refine blk_drewN ?_ _ | refine blk_drew ?_ | refine blk_alloc ?_ _)); refine blk_far ?_ NB148_153.out _; (with_reducible repeat (first | refine blk_drewN ?_ _ | refine blk_drew ?_ | refine blk_alloc ?_ _)); refine blk_far ?_ NB148_153.out _; (with_reducible repeat (first | refine blk_drewN ?_ _ | refine blk_drew ?_ | refine blk_alloc ?_ _)); exact BK148.out) hb); have n3_ := Aside0.mk (blk_below (g := gb153) (o := .cells #[.int .i64 t150, .int .i64 t151] 23 (0, 0)) (by (with_reducible repeat (first | refine blk_drewN ?_ _ | refine blk_drew ?_ | refine blk_alloc ?_ _)); refine blk_put (cs := #[.int .i64 t150, .int .i64 0]) ?_ 1 _ rfl; (with_reducible repeat (first | refine blk_drewN ?_ _ | refine blk_drew ?_ | refine blk_alloc ?_ _)); refine blk_put (cs := #[.int .i64 0, .int .i64 0]) ?_ 0 _ rfl; (with_reducible repeat (first | refine blk_drewN ?_ _ | refine blk_drew ?_ | refine blk_alloc ?_ _)); exact BK153.out) hb); have n4_ := Aside0.mk (below_step (by repeat (first | (with_reducible first | exact HB.out | apply below_alloc | apply pw_below_drewN | apply below_drew1 | refine below_set ?_ GE137.out | refine below_set ?_ GE143.out | refine below_set ?_ GE148.out | refine below_set ?_ GE153.out) | exact HB.out)) hb); clear BK137; clear BK143; clear BK148; clear BK153; clear HB; have BK137 := n0_; have BK143 := n1_; have BK148 := n2_; have BK153 := n3_; have HB := n4_; clear n0_ n1_ n2_ n3_ n4_; (try clear hb); (try clear hb2); (try clear hk); (try clear hi); have hcz62_0 : w61.cell? ⟨gb153, 0, none⟩ = some (.int .i64 t150) := (blk_cell BK153.out 0).trans rfl; have hcz62_1 : w61.cell? ⟨gb153, 1, none⟩ = some (.int .i64 t151) := (blk_cell BK153.out 1).trans rfl; have hfz62_0 := blk_frozen BK153.out 0; have hfz62_1 := blk_frozen BK153.out 1; have hcz63_0 : w61.cell? ⟨gb148, 0, none⟩ = some (.int .i64 t145) := (blk_cell BK148.out 0).trans rfl; have hcz63_1 : w61.cell? ⟨gb148, 1, none⟩ = some (.int .i64 t146) := (blk_cell BK148.out 1).trans rfl; have hfz63_0 := blk_frozen BK148.out 0; have hfz63_1 := blk_frozen BK148.out 1))
                  go_ret
                  exact ⟨by first | rfl | (simp [errW_none, errW_some] <;> rfl) | (simp [*, errW_none, errW_some] <;> rfl), by repeat (first | (with_reducible first | exact HB.out | apply below_alloc | apply pw_below_drewN | apply below_drew1 | refine below_set ?_ GE137.out | refine below_set ?_ GE143.out | refine below_set ?_ GE148.out | refine below_set ?_ GE153.out) | exact HB.out)⟩
                · replace c47 := Bool.eq_false_iff.mpr c47
                  subst c47
                  have H1 : (some false) = some r := by rw [if_neg (show ¬ (false = true) by decide)] at H; exact H
                  clear H
                  have H := H1
                  clear H1
                  exact absurd ((Option.some.inj H).trans hrt) (by decide)
              · replace c46 := Bool.eq_false_iff.mpr c46
                subst c46
                have H1 : (some false) = some r := by rw [if_neg (show ¬ (false = true) by decide)] at H; exact H
                clear H
                have H := H1
                clear H1
                exact absurd ((Option.some.inj H).trans hrt) (by decide)
            · replace c42 := Bool.eq_false_iff.mpr c42
              subst c42
              have H1 : (some (t145 == 0 && (t146 == 0))) = some r := by rw [if_neg (show ¬ (false = true) by decide)] at H; exact H
              clear H
              have H := H1
              clear H1
              obtain rfl := Option.some.inj H; clear hrt; try clear H
              go_wp2_with (first | ((with_reducible refine gate_callee (f := 15) rfl ?_); refine goesL_ (some 52) rfl rfl Tryd.func15 (by kernel_rfl) rfl #[.int .i64 a0, .string a2] rfl (by (try simp only [List.map_toArray, List.map_cons, List.map_nil]); first | done | rfl | (simp only [List.length_drop, List.length_take]; rfl)) ?_; (with_reducible refine (value_Read.calls a0 a2 t145 t146 false _ A41.out).mono ?_); rintro e w92 ⟨rfl, hb⟩; refine ⟨_, rfl, ?_⟩; have n0_ := Aside0.mk (blk_below (g := gb137) (o := .cells #[.int .i64 a1_0, .int .i64 a1_1] 23 (0, 0)) (by (with_reducible repeat (first | refine blk_drewN ?_ _ | refine blk_drew ?_ | refine blk_alloc ?_ _)); exact BK137.out) hb); have n1_ := Aside0.mk (blk_below (g := gb143) (o := .cells #[.int .i64 t140, .int .i64 t141] 23 (0, 0)) (by (with_reducible repeat (first | refine blk_drewN ?_ _ | refine blk_drew ?_ | refine blk_alloc ?_ _)); exact BK143.out) hb); have n2_ := Aside0.mk (below_step (by repeat (first | (with_reducible first | exact HB.out | apply below_alloc | apply pw_below_drewN | apply below_drew1 | refine below_set ?_ GE137.out | refine below_set ?_ GE143.out) | exact HB.out)) hb); clear BK137; clear BK143; clear HB; have BK137 := n0_; have BK143 := n1_; have HB := n2_; clear n0_ n1_ n2_; (try clear hb); (try clear hb2); (try clear hk); (try clear hi)) | ((with_reducible refine gate_dst (N := 10) rfl ?_); refine box_event ?hg (N := 10) ?hd (cs := #[.int .i64 0, .int .i64 0]) (t := 23) ?hr ?_; (case hd => rfl); (case hg => rfl); (case hr => first | (go_simp; done) | (go_simp; rfl)); intro gb148 hg w93 hbox hb; have n0_ := Aside0.mk (blk_below (g := gb137) (o := .cells #[.int .i64 a1_0, .int .i64 a1_1] 23 (0, 0)) (by (with_reducible repeat (first | refine blk_drewN ?_ _ | refine blk_drew ?_ | refine blk_alloc ?_ _)); exact BK137.out) hb); have n1_ := Aside0.mk (blk_below (g := gb143) (o := .cells #[.int .i64 t140, .int .i64 t141] 23 (0, 0)) (by (with_reducible repeat (first | refine blk_drewN ?_ _ | refine blk_drew ?_ | refine blk_alloc ?_ _)); exact BK143.out) hb); have n2_ := Aside0.mk (below_step (by repeat (first | (with_reducible first | exact HB.out | apply below_alloc | apply pw_below_drewN | apply below_drew1 | refine below_set ?_ GE137.out | refine below_set ?_ GE143.out) | exact HB.out)) hb); have n3_ := Aside0.mk (hbox); have n4_ := Aside0.mk ((by rw [hg]; exact (below_size (by repeat (first | (with_reducible first | exact HB.out | apply below_alloc | apply pw_below_drewN | apply below_drew1 | refine below_set ?_ GE137.out | refine below_set ?_ GE143.out) | exact HB.out))) : w.heap.size ≤ gb148)); have n5_ := Aside0.mk ((by rw [hg]; exact (below_size (by repeat (first | (with_reducible first | exact HB.out | apply below_alloc | apply pw_below_drewN | apply below_drew1 | refine below_set ?_ GE137.out | refine below_set ?_ GE143.out) | exact HB.out))) : w.heap.size ≤ gb148)); have n6_ := Aside0.mk ((by rw [hg]; exact Nat.ne_of_lt (blk_lt (g := gb137) (o := .cells #[.int .i64 a1_0, .int .i64 a1_1] 23 (0, 0)) (by (with_reducible repeat (first | refine blk_drewN ?_ _ | refine blk_drew ?_ | refine blk_alloc ?_ _)); exact BK137.out)) : gb137 ≠ gb148)); have n7_ := Aside0.mk ((by rw [hg]; exact Nat.ne_of_gt (blk_lt (g := gb137) (o := .cells #[.int .i64 a1_0, .int .i64 a1_1] 23 (0, 0)) (by (with_reducible repeat (first | refine blk_drewN ?_ _ | refine blk_drew ?_ | refine blk_alloc ?_ _)); exact BK137.out)) : gb148 ≠ gb137)); have n8_ := Aside0.mk ((by rw [hg]; exact Nat.ne_of_lt (blk_lt (g := gb143) (o := .cells #[.int .i64 t140, .int .i64 t141] 23 (0, 0)) (by (with_reducible repeat (first | refine blk_drewN ?_ _ | refine blk_drew ?_ | refine blk_alloc ?_ _)); exact BK143.out)) : gb143 ≠ gb148)); have n9_ := Aside0.mk ((by rw [hg]; exact Nat.ne_of_gt (blk_lt (g := gb143) (o := .cells #[.int .i64 t140, .int .i64 t141] 23 (0, 0)) (by (with_reducible repeat (first | refine blk_drewN ?_ _ | refine blk_drew ?_ | refine blk_alloc ?_ _)); exact BK143.out)) : gb148 ≠ gb143)); clear BK137; clear BK143; clear HB; have BK137 := n0_; have BK143 := n1_; have HB := n2_; have BK148 := n3_; have GW148 := n4_; have GE148 := n5_; have NB137_148 := n6_; have NB148_137 := n7_; have NB143_148 := n8_; have NB148_143 := n9_; clear n0_ n1_ n2_ n3_ n4_ n5_ n6_ n7_ n8_ n9_; clear hb hbox hg; have hnb94 := NB148_137.out; have hnc94 := NB137_148.out; have hnb95 := NB148_143.out; have hnc95 := NB143_148.out; have hcz96_0 : w93.cell? ⟨gb148, 0, none⟩ = some (.int .i64 0) := (blk_cell BK148.out 0).trans rfl; have hcz96_1 : w93.cell? ⟨gb148, 1, none⟩ = some (.int .i64 0) := (blk_cell BK148.out 1).trans rfl; have hfz96_0 := blk_frozen BK148.out 0; have hfz96_1 := blk_frozen BK148.out 1))
              go_ret
              exact ⟨by first | rfl | (simp [errW_none, errW_some] <;> rfl) | (simp [*, errW_none, errW_some] <;> rfl), by repeat (first | (with_reducible first | exact HB.out | apply below_alloc | apply pw_below_drewN | apply below_drew1 | refine below_set ?_ GE137.out | refine below_set ?_ GE143.out | refine below_set ?_ GE148.out) | exact HB.out)⟩
  · replace c5 := Bool.eq_false_iff.mpr c5
    subst c5
    have H1 : (some false) = some r := by rw [if_neg (show ¬ (false = true) by decide)] at H; exact H
    clear H
    have H := H1
    clear H1
    exact absurd ((Option.some.inj H).trans hrt) (by decide)

-- NOT PRINTED: function 6 (scrimlaw08_ValueUnits)

end Go.Proofs.YtmfhhlgjbjbnhaaDoor.HV
