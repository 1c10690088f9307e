-- Written by a program of this session (wip/tools/hprint.py), which drives the kit's print; not print.sh's own output.
import Derived.Test.YtmfhhlgjbjbnhaaGreatDoorHV0
import Derived.Test.YtmfhhlgjbjbnhaaGreatDoorHV2
import Derived.Test.YtmfhhlgjbjbnhaaGreatDoorHV7
namespace Go.Proofs.YtmfhhlgjbjbnhaaGreatDoor.HV
open Go.RowKit Go.Proofs.YtmfhhlgjbjbnhaaGreatDoorW.PrintWords Go.Proofs.YtmfhhlgjbjbnhaaGreatDoorW.PrintLast Go.Proofs.YtmfhhlgjbjbnhaaGreatDoorW.PrintMore
attribute [local go_sem] max2_int min2_int max_two min_two max_three min_three max_four min_four   -- for this text's walks alone
set_option linter.unusedVariables false
set_option linter.unusedSimpArgs false

/-! ### scrimref08_Read: function 6 -/
def scrimref08_Read.l0 : Nat → Int → ByteArray → Int → Option (Int × Int × Bool)
  | 0, _, _, _ => none
  | k + 1, x0, x6, x7 => if x7 ≤ 6 then ((scrimref08_read.f k x0 x7 x6).bind fun bt211 => (if bt211.2.2 = true then (some (bt211.1, bt211.2.1, true)) else (scrimref08_Read.l0 k x0 x6 (wrap64 (x7 + 1))))) else (some (0, 0, false))
def scrimref08_Read.f (k : Nat) (a0 : Int) (a1 : ByteArray) : Option (Int × Int × Bool) := (scrimref07_Trim.f k a1).bind fun t209 => ((scrimref07_Lower.f k t209).bind fun t210 => (scrimref08_Read.l0 k a0 t210 1))
theorem scrimref08_Read.mono_l : ∀ k, (∀ y0 y1 y2, LeO (scrimref08_Read.l0 k y0 y1 y2) (scrimref08_Read.l0 (k + 1) y0 y1 y2))
  | 0 => fun _ _ _ r h => by simp [scrimref08_Read.l0] at h
  | k + 1 => by
    have ih0 := scrimref08_Read.mono_l k
    · intro y0 y1 y2
      unfold scrimref08_Read.l0
      repeat' first
      | (with_reducible exact ih0 _ _ _)
      | (with_reducible exact scrimref07_Lower.mono _ _)
      | (with_reducible exact scrimref07_Trim.mono _ _)
      | (with_reducible exact scrimref08_read.mono _ _ _ _)
      | (with_reducible exact LeO.refl _)
      | (with_reducible exact LeO.none _)
      | (with_reducible refine LeO.ite ?_ ?_)
      | (with_reducible refine LeO.bind ?_ (fun _ => ?_))
      | exact ih0 _ _ _
      | exact scrimref07_Lower.mono _ _
      | exact scrimref07_Trim.mono _ _
      | exact scrimref08_read.mono _ _ _ _
      | exact LeO.none _
      | refine LeO.ite ?_ ?_
      | refine LeO.bind ?_ (fun _ => ?_)
theorem scrimref08_Read.mono : ∀ a0 a1 k, LeO (scrimref08_Read.f k a0 a1) (scrimref08_Read.f (k + 1) a0 a1) := by
  intro a0 a1 k
  have ih0 := scrimref08_Read.mono_l k
  unfold scrimref08_Read.f
  repeat' first
      | (with_reducible exact ih0 _ _ _)
      | (with_reducible exact scrimref07_Lower.mono _ _)
      | (with_reducible exact scrimref07_Trim.mono _ _)
      | (with_reducible exact scrimref08_read.mono _ _ _ _)
      | (with_reducible exact LeO.refl _)
      | (with_reducible exact LeO.none _)
      | (with_reducible refine LeO.ite ?_ ?_)
      | (with_reducible refine LeO.bind ?_ (fun _ => ?_))
      | exact ih0 _ _ _
      | exact scrimref07_Lower.mono _ _
      | exact scrimref07_Trim.mono _ _
      | exact scrimref08_read.mono _ _ _ _
      | exact LeO.none _
      | refine LeO.ite ?_ ?_
      | refine LeO.bind ?_ (fun _ => ?_)
set_option maxHeartbeats 8000000 in
set_option maxRecDepth 100000 in
theorem scrimref08_Read.calls (k : Nat) (a0 : Int) (a1 : ByteArray) (r1 : Int) (r2 : Int) (r3 : Bool) (w : World) (h : scrimref08_Read.f k a0 a1 = some (r1, r2, r3)) :
    Calls Tryz.prog 6 #[.int .i64 a0, .string a1] w fun e w' => e = .returned (.tuple #[.agg #[.int .i64 r1, .int .i64 r2], .bool r3]) ∧ Below w.heap.size w w' := by
  have hu23 := Tryz.underlying23
  have HB := Aside0.mk (Below.refl w.heap.size w)
  have H : ((scrimref07_Trim.f k a1).bind fun t209 => ((scrimref07_Lower.f k t209).bind fun t210 => (scrimref08_Read.l0 k a0 t210 1))) = some (r1, r2, r3) := h
  clear h
  replace H := Option.bind_eq_some_iff.mp H
  obtain ⟨t209, A30, H⟩ := H
  replace H : ((scrimref07_Lower.f k t209).bind fun t210 => (scrimref08_Read.l0 k a0 t210 1)) = some (r1, r2, r3) := H
  have A3 := Aside0.mk A30
  clear A30
  replace H := Option.bind_eq_some_iff.mp H
  obtain ⟨t210, A40, H⟩ := H
  replace H : (scrimref08_Read.l0 k a0 t210 1) = some (r1, r2, r3) := H
  have A4 := Aside0.mk A40
  clear A40
  have H' := Aside0.mk H
  clear H
  go_enter Tryz.func6, Tryz.ntmps6
  go_wp2_with (first | ((with_reducible refine gate_dst (N := 4) rfl ?_); refine box_event ?hg (N := 4) ?hd (cs := #[.int .i64 0, .int .i64 0]) (t := 23) ?hr ?_; (case hd => rfl); (case hg => rfl); (case hr => first | (go_simp; done) | (go_simp; rfl)); intro gb208 hg w5 hbox hb; have n0_ := Aside0.mk (below_step (by repeat (first | (with_reducible first | exact HB.out | apply below_alloc | apply pw_below_drewN | apply below_drew1) | exact HB.out)) hb); have n1_ := Aside0.mk (hbox); have n2_ := Aside0.mk ((by rw [hg]; exact (below_size (by repeat (first | (with_reducible first | exact HB.out | apply below_alloc | apply pw_below_drewN | apply below_drew1) | exact HB.out))) : w.heap.size ≤ gb208)); have n3_ := Aside0.mk ((by rw [hg]; exact (below_size (by repeat (first | (with_reducible first | exact HB.out | apply below_alloc | apply pw_below_drewN | apply below_drew1) | exact HB.out))) : w.heap.size ≤ gb208)); clear HB; have HB := n0_; have BK208 := n1_; have GW208 := n2_; have GE208 := n3_; clear n0_ n1_ n2_ n3_; clear hb hbox hg) | ((with_reducible refine gate_callee (f := 24) rfl ?_); refine goesL_ (some 11) rfl rfl Tryz.func24 (by kernel_rfl) rfl #[.string a1] rfl (by (try simp only [List.map_toArray, List.map_cons, List.map_nil]); first | done | rfl | (simp only [List.length_drop, List.length_take]; rfl)) ?_; (with_reducible refine (scrimref07_Trim.calls k a1 t209 _ A3.out).mono ?_); rintro e w' ⟨rfl, ⟨nd, rfl⟩⟩; refine ⟨_, rfl, ?_⟩) | ((with_reducible refine gate_callee (f := 23) rfl ?_); refine goesL_ (some 12) rfl rfl Tryz.func23 (by kernel_rfl) rfl #[.string t209] rfl (by (try simp only [List.map_toArray, List.map_cons, List.map_nil]); first | done | rfl | (simp only [List.length_drop, List.length_take]; rfl)) ?_; (with_reducible refine (scrimref07_Lower.calls k t209 t210 _ A4.out).mono ?_); rintro e w6 ⟨rfl, hb⟩; refine ⟨_, rfl, ?_⟩; have n0_ := Aside0.mk (blk_below (g := gb208) (o := .cells #[.int .i64 0, .int .i64 0] 23 (0, 0)) (by (with_reducible repeat (first | refine blk_drewN ?_ _ | refine blk_drew ?_ | refine blk_alloc ?_ _)); exact BK208.out) hb); have n1_ := Aside0.mk (below_step (by repeat (first | (with_reducible first | exact HB.out | apply below_alloc | apply pw_below_drewN | apply below_drew1 | refine below_set ?_ GE208.out) | exact HB.out)) hb); clear BK208; clear HB; have BK208 := n0_; have HB := n1_; clear n0_ n1_; (try clear hb); (try clear hb2); (try clear hk); (try clear hi)))
  go_loopg [7] k (fun kq v7 w' => ∃ (x7_1 : Int) (x209000_1 : Int) (x209001_1 : Int), v7 = .int .i64 x7_1 ∧ Aside0 (scrimref08_Read.l0 kq a0 t210 x7_1 = some (r1, r2, r3)) ∧ Aside0 (kq ≤ k) ∧ Aside0 (w'.heap[gb208]? = some (.cells #[.int .i64 x209000_1, .int .i64 x209001_1] 23 (0, 0))) ∧ Aside0 (Below w.heap.size w w'))
  case atStart => exact ⟨(1), (0), (0), (by first | rfl | (simp; done) | (simp [*]; done)), H', ⟨Nat.le_refl _⟩, ⟨by (with_reducible repeat (first | refine blk_drewN ?_ _ | refine blk_drew ?_ | refine blk_alloc ?_ _)); exact BK208.out⟩, ⟨by repeat (first | (with_reducible first | exact HB.out | apply below_alloc | apply pw_below_drewN | apply below_drew1 | refine below_set ?_ GE208.out) | exact HB.out)⟩⟩
  case round =>
    clear H'
    try clear c2
    try clear p2
    try clear c6
    obtain ⟨x7_1, x209000_1, x209001_1, rfl, HA, HK1, BK208, HB⟩ := hrel
    cases gk with
    | zero => exact absurd HA.out (by simp [scrimref08_Read.l0])
    | succ k1 =>
      have H := HA.out
      clear HA
      simp only [scrimref08_Read.l0] at H
      by_cases c7 : x7_1 ≤ 6
      · rw [if_pos c7] at H
        have c7b0 : decide (x7_1 ≤ 6) = true := decide_eq_true c7
        clear c7
        replace H := Option.bind_eq_some_iff.mp H
        obtain ⟨⟨t211, t212, t213⟩, A80, H⟩ := H
        replace H : (if t213 = true then (some (t211, t212, true)) else (scrimref08_Read.l0 k1 a0 t210 (wrap64 (x7_1 + 1)))) = some (r1, r2, r3) := H
        have A8 := Aside0.mk A80
        clear A80
        by_cases c9 : t213 = true
        · subst c9
          have H1 : (some (t211, t212, true)) = some (r1, r2, r3) := by rw [if_pos rfl] at H; exact H
          clear H
          have H := H1
          clear H1
          simp only [Option.some.injEq, Prod.mk.injEq] at H
          obtain ⟨rfl, rfl, rfl⟩ := H
          go_wp2_with (first | ((with_reducible refine gate_callee (f := 25) rfl ?_); refine goesL_ (some 21) rfl rfl Tryz.func25 (by kernel_rfl) rfl #[.int .i64 a0, .int .i64 x7_1, .string t210] rfl (by (try simp only [List.map_toArray, List.map_cons, List.map_nil]); first | done | rfl | (simp only [List.length_drop, List.length_take]; rfl)) ?_; (with_reducible refine (scrimref08_read.calls k1 a0 x7_1 t210 t211 t212 true _ A8.out).mono ?_); rintro e w10 ⟨rfl, hb⟩; refine ⟨_, rfl, ?_⟩; have n0_ := Aside0.mk (blk_below (g := gb208) (o := .cells #[.int .i64 x209000_1, .int .i64 x209001_1] 23 (0, 0)) (by (with_reducible repeat (first | refine blk_drewN ?_ _ | refine blk_drew ?_ | refine blk_alloc ?_ _)); exact BK208.out) hb); have n1_ := Aside0.mk (below_step (by repeat (first | (with_reducible first | exact HB.out | apply below_alloc | apply pw_below_drewN | apply below_drew1 | refine below_set ?_ GE208.out) | exact HB.out)) hb); clear BK208; clear HB; have BK208 := n0_; have HB := n1_; clear n0_ n1_; (try clear hb); (try clear hb2); (try clear hk); (try clear hi)) | ((with_reducible refine gate_dst (N := 8) rfl ?_); refine box_event ?hg (N := 8) ?hd (cs := #[.int .i64 0, .int .i64 0]) (t := 23) ?hr ?_; (case hd => rfl); (case hg => rfl); (case hr => first | (go_simp; done) | (go_simp; rfl)); intro gb214 hg w11 hbox hb; have n0_ := Aside0.mk (blk_below (g := gb208) (o := .cells #[.int .i64 x209000_1, .int .i64 x209001_1] 23 (0, 0)) (by (with_reducible repeat (first | refine blk_drewN ?_ _ | refine blk_drew ?_ | refine blk_alloc ?_ _)); exact BK208.out) hb); have n1_ := Aside0.mk (below_step (by repeat (first | (with_reducible first | exact HB.out | apply below_alloc | apply pw_below_drewN | apply below_drew1 | refine below_set ?_ GE208.out) | exact HB.out)) hb); have n2_ := Aside0.mk (hbox); have n3_ := Aside0.mk ((by rw [hg]; exact (below_size (by repeat (first | (with_reducible first | exact HB.out | apply below_alloc | apply pw_below_drewN | apply below_drew1 | refine below_set ?_ GE208.out) | exact HB.out))) : w.heap.size ≤ gb214)); have n4_ := Aside0.mk ((by rw [hg]; exact (below_size (by repeat (first | (with_reducible first | exact HB.out | apply below_alloc | apply pw_below_drewN | apply below_drew1 | refine below_set ?_ GE208.out) | exact HB.out))) : w.heap.size ≤ gb214)); have n5_ := Aside0.mk ((by rw [hg]; exact Nat.ne_of_lt (blk_lt (g := gb208) (o := .cells #[.int .i64 x209000_1, .int .i64 x209001_1] 23 (0, 0)) (by (with_reducible repeat (first | refine blk_drewN ?_ _ | refine blk_drew ?_ | refine blk_alloc ?_ _)); exact BK208.out)) : gb208 ≠ gb214)); have n6_ := Aside0.mk ((by rw [hg]; exact Nat.ne_of_gt (blk_lt (g := gb208) (o := .cells #[.int .i64 x209000_1, .int .i64 x209001_1] 23 (0, 0)) (by (with_reducible repeat (first | refine blk_drewN ?_ _ | refine blk_drew ?_ | refine blk_alloc ?_ _)); exact BK208.out)) : gb214 ≠ gb208)); clear BK208; clear HB; have BK208 := n0_; have HB := n1_; have BK214 := n2_; have GW214 := n3_; have GE214 := n4_; have NB208_214 := n5_; have NB214_208 := n6_; clear n0_ n1_ n2_ n3_ n4_ n5_ n6_; clear hb hbox hg; have hnb12 := NB214_208.out; have hnc12 := NB208_214.out; have hcz13_0 : w11.cell? ⟨gb214, 0, none⟩ = some (.int .i64 0) := (blk_cell BK214.out 0).trans rfl; have hcz13_1 : w11.cell? ⟨gb214, 1, none⟩ = some (.int .i64 0) := (blk_cell BK214.out 1).trans rfl; have hfz13_0 := blk_frozen BK214.out 0; have hfz13_1 := blk_frozen BK214.out 1; have hcz14_0 : w11.cell? ⟨gb208, 0, none⟩ = some (.int .i64 x209000_1) := (blk_cell BK208.out 0).trans rfl; have hcz14_1 : w11.cell? ⟨gb208, 1, none⟩ = some (.int .i64 x209001_1) := (blk_cell BK208.out 1).trans rfl; have hfz14_0 := blk_frozen BK208.out 0; have hfz14_1 := blk_frozen BK208.out 1))
          refine bodyPost_ret (results_ct rfl _ _ gb208 23 #[.int .i64 t211, .int .i64 t212] (0, 0) _ rfl (by (with_reducible repeat (first | refine blk_drewN ?_ _ | refine blk_drew ?_ | refine blk_alloc ?_ _)); refine blk_put (cs := #[.int .i64 t211, .int .i64 x209001_1]) ?_ 1 _ rfl; (with_reducible repeat (first | refine blk_drewN ?_ _ | refine blk_drew ?_ | refine blk_alloc ?_ _)); refine blk_put (cs := #[.int .i64 x209000_1, .int .i64 x209001_1]) ?_ 0 _ rfl; (with_reducible repeat (first | refine blk_drewN ?_ _ | refine blk_drew ?_ | refine blk_alloc ?_ _)); refine blk_far ?_ NB208_214.out _; (with_reducible repeat (first | refine blk_drewN ?_ _ | refine blk_drew ?_ | refine blk_alloc ?_ _)); refine blk_far ?_ NB208_214.out _; (with_reducible repeat (first | refine blk_drewN ?_ _ | refine blk_drew ?_ | refine blk_alloc ?_ _)); exact BK208.out) Tryz.underlying23 rfl (by kernel_rfl)) rfl ?_
          exact ⟨by first | rfl | (simp [errW_none, errW_some] <;> rfl) | (simp [*, errW_none, errW_some] <;> rfl), by repeat (first | (with_reducible first | exact HB.out | apply below_alloc | apply pw_below_drewN | apply below_drew1 | refine below_set ?_ GE208.out | refine below_set ?_ GE214.out) | exact HB.out)⟩
        · replace c9 := Bool.eq_false_iff.mpr c9
          subst c9
          have H1 : (scrimref08_Read.l0 k1 a0 t210 (wrap64 (x7_1 + 1))) = some (r1, r2, r3) := by rw [if_neg (show ¬ (false = true) by decide)] at H; exact H
          clear H
          have H := H1
          clear H1
          have H' := Aside0.mk H
          clear H
          go_wp2_with (first | ((with_reducible refine gate_callee (f := 25) rfl ?_); refine goesL_ (some 21) rfl rfl Tryz.func25 (by kernel_rfl) rfl #[.int .i64 a0, .int .i64 x7_1, .string t210] rfl (by (try simp only [List.map_toArray, List.map_cons, List.map_nil]); first | done | rfl | (simp only [List.length_drop, List.length_take]; rfl)) ?_; (with_reducible refine (scrimref08_read.calls k1 a0 x7_1 t210 t211 t212 false _ A8.out).mono ?_); rintro e w15 ⟨rfl, hb⟩; refine ⟨_, rfl, ?_⟩; have n0_ := Aside0.mk (blk_below (g := gb208) (o := .cells #[.int .i64 x209000_1, .int .i64 x209001_1] 23 (0, 0)) (by (with_reducible repeat (first | refine blk_drewN ?_ _ | refine blk_drew ?_ | refine blk_alloc ?_ _)); exact BK208.out) hb); have n1_ := Aside0.mk (below_step (by repeat (first | (with_reducible first | exact HB.out | apply below_alloc | apply pw_below_drewN | apply below_drew1 | refine below_set ?_ GE208.out) | exact HB.out)) hb); clear BK208; clear HB; have BK208 := n0_; have HB := n1_; clear n0_ n1_; (try clear hb); (try clear hb2); (try clear hk); (try clear hi)) | ((with_reducible refine gate_dst (N := 8) rfl ?_); refine box_event ?hg (N := 8) ?hd (cs := #[.int .i64 0, .int .i64 0]) (t := 23) ?hr ?_; (case hd => rfl); (case hg => rfl); (case hr => first | (go_simp; done) | (go_simp; rfl)); intro gb214 hg w16 hbox hb; have n0_ := Aside0.mk (blk_below (g := gb208) (o := .cells #[.int .i64 x209000_1, .int .i64 x209001_1] 23 (0, 0)) (by (with_reducible repeat (first | refine blk_drewN ?_ _ | refine blk_drew ?_ | refine blk_alloc ?_ _)); exact BK208.out) hb); have n1_ := Aside0.mk (below_step (by repeat (first | (with_reducible first | exact HB.out | apply below_alloc | apply pw_below_drewN | apply below_drew1 | refine below_set ?_ GE208.out) | exact HB.out)) hb); have n2_ := Aside0.mk (hbox); have n3_ := Aside0.mk ((by rw [hg]; exact (below_size (by repeat (first | (with_reducible first | exact HB.out | apply below_alloc | apply pw_below_drewN | apply below_drew1 | refine below_set ?_ GE208.out) | exact HB.out))) : w.heap.size ≤ gb214)); have n4_ := Aside0.mk ((by rw [hg]; exact (below_size (by repeat (first | (with_reducible first | exact HB.out | apply below_alloc | apply pw_below_drewN | apply below_drew1 | refine below_set ?_ GE208.out) | exact HB.out))) : w.heap.size ≤ gb214)); have n5_ := Aside0.mk ((by rw [hg]; exact Nat.ne_of_lt (blk_lt (g := gb208) (o := .cells #[.int .i64 x209000_1, .int .i64 x209001_1] 23 (0, 0)) (by (with_reducible repeat (first | refine blk_drewN ?_ _ | refine blk_drew ?_ | refine blk_alloc ?_ _)); exact BK208.out)) : gb208 ≠ gb214)); have n6_ := Aside0.mk ((by rw [hg]; exact Nat.ne_of_gt (blk_lt (g := gb208) (o := .cells #[.int .i64 x209000_1, .int .i64 x209001_1] 23 (0, 0)) (by (with_reducible repeat (first | refine blk_drewN ?_ _ | refine blk_drew ?_ | refine blk_alloc ?_ _)); exact BK208.out)) : gb214 ≠ gb208)); clear BK208; clear HB; have BK208 := n0_; have HB := n1_; have BK214 := n2_; have GW214 := n3_; have GE214 := n4_; have NB208_214 := n5_; have NB214_208 := n6_; clear n0_ n1_ n2_ n3_ n4_ n5_ n6_; clear hb hbox hg; have hnb17 := NB214_208.out; have hnc17 := NB208_214.out; have hcz18_0 : w16.cell? ⟨gb214, 0, none⟩ = some (.int .i64 0) := (blk_cell BK214.out 0).trans rfl; have hcz18_1 : w16.cell? ⟨gb214, 1, none⟩ = some (.int .i64 0) := (blk_cell BK214.out 1).trans rfl; have hfz18_0 := blk_frozen BK214.out 0; have hfz18_1 := blk_frozen BK214.out 1))
          go_roundg k1
          case measure => have := HK1.out; omega
          case rel => exact ⟨(wrap64 (x7_1 + 1)), (x209000_1), (x209001_1), (by first | rfl | (simp; done) | (simp [*]; done)), H', ⟨by have := HK1.out; omega⟩, ⟨by (with_reducible repeat (first | refine blk_drewN ?_ _ | refine blk_drew ?_ | refine blk_alloc ?_ _)); refine blk_far ?_ NB208_214.out _; (with_reducible repeat (first | refine blk_drewN ?_ _ | refine blk_drew ?_ | refine blk_alloc ?_ _)); refine blk_far ?_ NB208_214.out _; (with_reducible repeat (first | refine blk_drewN ?_ _ | refine blk_drew ?_ | refine blk_alloc ?_ _)); exact BK208.out⟩, ⟨by repeat (first | (with_reducible first | exact HB.out | apply below_alloc | apply pw_below_drewN | apply below_drew1 | refine below_set ?_ GE208.out | refine below_set ?_ GE214.out) | exact HB.out)⟩⟩
      · rw [if_neg c7] at H
        have c7b0 : decide (x7_1 ≤ 6) = false := decide_eq_false c7
        clear c7
        simp only [Option.some.injEq, Prod.mk.injEq] at H
        obtain ⟨rfl, rfl, rfl⟩ := H
        have hcz19_0 : wr.cell? ⟨gb208, 0, none⟩ = some (.int .i64 x209000_1) := (blk_cell BK208.out 0).trans rfl
        have hcz19_1 : wr.cell? ⟨gb208, 1, none⟩ = some (.int .i64 x209001_1) := (blk_cell BK208.out 1).trans rfl
        have hfz19_0 := blk_frozen BK208.out 0
        have hfz19_1 := blk_frozen BK208.out 1
        go_wp2
        refine bodyPost_ret (results_ct rfl _ _ gb208 23 #[.int .i64 0, .int .i64 0] (0, 0) _ rfl (by (with_reducible repeat (first | refine blk_drewN ?_ _ | refine blk_drew ?_ | refine blk_alloc ?_ _)); refine blk_put (cs := #[.int .i64 0, .int .i64 x209001_1]) ?_ 1 _ rfl; (with_reducible repeat (first | refine blk_drewN ?_ _ | refine blk_drew ?_ | refine blk_alloc ?_ _)); refine blk_put (cs := #[.int .i64 x209000_1, .int .i64 x209001_1]) ?_ 0 _ rfl; (with_reducible repeat (first | refine blk_drewN ?_ _ | refine blk_drew ?_ | refine blk_alloc ?_ _)); exact BK208.out) Tryz.underlying23 rfl (by kernel_rfl)) rfl ?_
        exact ⟨by first | rfl | (simp [errW_none, errW_some] <;> rfl) | (simp [*, errW_none, errW_some] <;> rfl), by repeat (first | (with_reducible first | exact HB.out | apply below_alloc | apply pw_below_drewN | apply below_drew1 | refine below_set ?_ GE208.out) | exact HB.out)⟩

/-! ### scrimref08_Name: function 10 -/
def scrimref08_Name.f (a0 : Int) : Option (ByteArray) := (some (([(⟨#[]⟩ : ByteArray), (⟨#[100, 105, 115, 112, 108, 97, 121]⟩ : ByteArray), (⟨#[119, 105, 100, 116, 104]⟩ : ByteArray), (⟨#[104, 101, 105, 103, 104, 116]⟩ : ByteArray), (⟨#[109, 97, 114, 103, 105, 110, 45, 116, 111, 112]⟩ : ByteArray), (⟨#[109, 97, 114, 103, 105, 110, 45, 114, 105, 103, 104, 116]⟩ : ByteArray), (⟨#[109, 97, 114, 103, 105, 110, 45, 98, 111, 116, 116, 111, 109]⟩ : ByteArray), (⟨#[109, 97, 114, 103, 105, 110, 45, 108, 101, 102, 116]⟩ : ByteArray), (⟨#[112, 97, 100, 100, 105, 110, 103, 45, 116, 111, 112]⟩ : ByteArray), (⟨#[112, 97, 100, 100, 105, 110, 103, 45, 114, 105, 103, 104, 116]⟩ : ByteArray), (⟨#[112, 97, 100, 100, 105, 110, 103, 45, 98, 111, 116, 116, 111, 109]⟩ : ByteArray), (⟨#[112, 97, 100, 100, 105, 110, 103, 45, 108, 101, 102, 116]⟩ : ByteArray), (⟨#[98, 111, 114, 100, 101, 114, 45, 116, 111, 112, 45, 119, 105, 100, 116, 104]⟩ : ByteArray), (⟨#[98, 111, 114, 100, 101, 114, 45, 114, 105, 103, 104, 116, 45, 119, 105, 100, 116, 104]⟩ : ByteArray), (⟨#[98, 111, 114, 100, 101, 114, 45, 98, 111, 116, 116, 111, 109, 45, 119, 105, 100, 116, 104]⟩ : ByteArray), (⟨#[98, 111, 114, 100, 101, 114, 45, 108, 101, 102, 116, 45, 119, 105, 100, 116, 104]⟩ : ByteArray), (⟨#[99, 111, 108, 111, 114]⟩ : ByteArray), (⟨#[98, 97, 99, 107, 103, 114, 111, 117, 110, 100, 45, 99, 111, 108, 111, 114]⟩ : ByteArray), (⟨#[102, 111, 110, 116, 45, 115, 105, 122, 101]⟩ : ByteArray), (⟨#[116, 101, 120, 116, 45, 97, 108, 105, 103, 110]⟩ : ByteArray), (⟨#[102, 108, 101, 120, 45, 103, 114, 111, 119]⟩ : ByteArray), (⟨#[102, 108, 101, 120, 45, 115, 104, 114, 105, 110, 107]⟩ : ByteArray), (⟨#[102, 108, 101, 120, 45, 100, 105, 114, 101, 99, 116, 105, 111, 110]⟩ : ByteArray), (⟨#[106, 117, 115, 116, 105, 102, 121, 45, 99, 111, 110, 116, 101, 110, 116]⟩ : ByteArray), (⟨#[111, 114, 100, 101, 114]⟩ : ByteArray), (⟨#[108, 101, 102, 116]⟩ : ByteArray), (⟨#[116, 111, 112]⟩ : ByteArray)] : List ByteArray) : List ByteArray)).bind fun y215 => (if a0 < 0 then (some (⟨#[]⟩ : ByteArray)) else (if a0 ≥ (y215.length : Int) then (some (⟨#[]⟩ : ByteArray)) else (if 0 ≤ a0 then (if a0 < (y215.length : Int) then (some (rdOf ByteArray.empty y215 a0)) else (none)) else (none))))
set_option maxHeartbeats 8000000 in
set_option maxRecDepth 100000 in
theorem scrimref08_Name.calls (a0 : Int) (r : ByteArray) (w : World) (h : scrimref08_Name.f a0 = some r) :
    Calls Tryz.prog 10 #[.int .i64 a0] w fun e w' => e = .returned (.string r) ∧ Below w.heap.size w w' := by
  have HB := Aside0.mk (Below.refl w.heap.size w)
  have H : ((some (([(⟨#[]⟩ : ByteArray), (⟨#[100, 105, 115, 112, 108, 97, 121]⟩ : ByteArray), (⟨#[119, 105, 100, 116, 104]⟩ : ByteArray), (⟨#[104, 101, 105, 103, 104, 116]⟩ : ByteArray), (⟨#[109, 97, 114, 103, 105, 110, 45, 116, 111, 112]⟩ : ByteArray), (⟨#[109, 97, 114, 103, 105, 110, 45, 114, 105, 103, 104, 116]⟩ : ByteArray), (⟨#[109, 97, 114, 103, 105, 110, 45, 98, 111, 116, 116, 111, 109]⟩ : ByteArray), (⟨#[109, 97, 114, 103, 105, 110, 45, 108, 101, 102, 116]⟩ : ByteArray), (⟨#[112, 97, 100, 100, 105, 110, 103, 45, 116, 111, 112]⟩ : ByteArray), (⟨#[112, 97, 100, 100, 105, 110, 103, 45, 114, 105, 103, 104, 116]⟩ : ByteArray), (⟨#[112, 97, 100, 100, 105, 110, 103, 45, 98, 111, 116, 116, 111, 109]⟩ : ByteArray), (⟨#[112, 97, 100, 100, 105, 110, 103, 45, 108, 101, 102, 116]⟩ : ByteArray), (⟨#[98, 111, 114, 100, 101, 114, 45, 116, 111, 112, 45, 119, 105, 100, 116, 104]⟩ : ByteArray), (⟨#[98, 111, 114, 100, 101, 114, 45, 114, 105, 103, 104, 116, 45, 119, 105, 100, 116, 104]⟩ : ByteArray), (⟨#[98, 111, 114, 100, 101, 114, 45, 98, 111, 116, 116, 111, 109, 45, 119, 105, 100, 116, 104]⟩ : ByteArray), (⟨#[98, 111, 114, 100, 101, 114, 45, 108, 101, 102, 116, 45, 119, 105, 100, 116, 104]⟩ : ByteArray), (⟨#[99, 111, 108, 111, 114]⟩ : ByteArray), (⟨#[98, 97, 99, 107, 103, 114, 111, 117, 110, 100, 45, 99, 111, 108, 111, 114]⟩ : ByteArray), (⟨#[102, 111, 110, 116, 45, 115, 105, 122, 101]⟩ : ByteArray), (⟨#[116, 101, 120, 116, 45, 97, 108, 105, 103, 110]⟩ : ByteArray), (⟨#[102, 108, 101, 120, 45, 103, 114, 111, 119]⟩ : ByteArray), (⟨#[102, 108, 101, 120, 45, 115, 104, 114, 105, 110, 107]⟩ : ByteArray), (⟨#[102, 108, 101, 120, 45, 100, 105, 114, 101, 99, 116, 105, 111, 110]⟩ : ByteArray), (⟨#[106, 117, 115, 116, 105, 102, 121, 45, 99, 111, 110, 116, 101, 110, 116]⟩ : ByteArray), (⟨#[111, 114, 100, 101, 114]⟩ : ByteArray), (⟨#[108, 101, 102, 116]⟩ : ByteArray), (⟨#[116, 111, 112]⟩ : ByteArray)] : List ByteArray) : List ByteArray)).bind fun y215 => (if a0 < 0 then (some (⟨#[]⟩ : ByteArray)) else (if a0 ≥ (y215.length : Int) then (some (⟨#[]⟩ : ByteArray)) else (if 0 ≤ a0 then (if a0 < (y215.length : Int) then (some (rdOf ByteArray.empty y215 a0)) else (none)) else (none))))) = some r := h
  clear h
  obtain ⟨y215, hy215⟩ : ∃ y_ : List ByteArray, y_ = (([(⟨#[]⟩ : ByteArray), (⟨#[100, 105, 115, 112, 108, 97, 121]⟩ : ByteArray), (⟨#[119, 105, 100, 116, 104]⟩ : ByteArray), (⟨#[104, 101, 105, 103, 104, 116]⟩ : ByteArray), (⟨#[109, 97, 114, 103, 105, 110, 45, 116, 111, 112]⟩ : ByteArray), (⟨#[109, 97, 114, 103, 105, 110, 45, 114, 105, 103, 104, 116]⟩ : ByteArray), (⟨#[109, 97, 114, 103, 105, 110, 45, 98, 111, 116, 116, 111, 109]⟩ : ByteArray), (⟨#[109, 97, 114, 103, 105, 110, 45, 108, 101, 102, 116]⟩ : ByteArray), (⟨#[112, 97, 100, 100, 105, 110, 103, 45, 116, 111, 112]⟩ : ByteArray), (⟨#[112, 97, 100, 100, 105, 110, 103, 45, 114, 105, 103, 104, 116]⟩ : ByteArray), (⟨#[112, 97, 100, 100, 105, 110, 103, 45, 98, 111, 116, 116, 111, 109]⟩ : ByteArray), (⟨#[112, 97, 100, 100, 105, 110, 103, 45, 108, 101, 102, 116]⟩ : ByteArray), (⟨#[98, 111, 114, 100, 101, 114, 45, 116, 111, 112, 45, 119, 105, 100, 116, 104]⟩ : ByteArray), (⟨#[98, 111, 114, 100, 101, 114, 45, 114, 105, 103, 104, 116, 45, 119, 105, 100, 116, 104]⟩ : ByteArray), (⟨#[98, 111, 114, 100, 101, 114, 45, 98, 111, 116, 116, 111, 109, 45, 119, 105, 100, 116, 104]⟩ : ByteArray), (⟨#[98, 111, 114, 100, 101, 114, 45, 108, 101, 102, 116, 45, 119, 105, 100, 116, 104]⟩ : ByteArray), (⟨#[99, 111, 108, 111, 114]⟩ : ByteArray), (⟨#[98, 97, 99, 107, 103, 114, 111, 117, 110, 100, 45, 99, 111, 108, 111, 114]⟩ : ByteArray), (⟨#[102, 111, 110, 116, 45, 115, 105, 122, 101]⟩ : ByteArray), (⟨#[116, 101, 120, 116, 45, 97, 108, 105, 103, 110]⟩ : ByteArray), (⟨#[102, 108, 101, 120, 45, 103, 114, 111, 119]⟩ : ByteArray), (⟨#[102, 108, 101, 120, 45, 115, 104, 114, 105, 110, 107]⟩ : ByteArray), (⟨#[102, 108, 101, 120, 45, 100, 105, 114, 101, 99, 116, 105, 111, 110]⟩ : ByteArray), (⟨#[106, 117, 115, 116, 105, 102, 121, 45, 99, 111, 110, 116, 101, 110, 116]⟩ : ByteArray), (⟨#[111, 114, 100, 101, 114]⟩ : ByteArray), (⟨#[108, 101, 102, 116]⟩ : ByteArray), (⟨#[116, 111, 112]⟩ : ByteArray)] : List ByteArray)) := ⟨_, rfl⟩
  replace H : (if a0 < 0 then (some (⟨#[]⟩ : ByteArray)) else (if a0 ≥ (y215.length : Int) then (some (⟨#[]⟩ : ByteArray)) else (if 0 ≤ a0 then (if a0 < (y215.length : Int) then (some (rdOf ByteArray.empty y215 a0)) else (none)) else (none)))) = some r := by first | (rw [hy215]; with_reducible exact H) | (have H2_ := (Option.bind_some _ _).symm.trans H; rw [hy215]; with_reducible exact H2_) | (have H2_ := (Option.bind_some _ _).symm.trans H; with_reducible exact H2_) | with_reducible exact H | (rw [hy215]; exact H) | exact H
  have Ny215 := Aside0.mk hy215
  clear hy215
  by_cases c2 : a0 < 0
  · rw [if_pos c2] at H
    have c2b0 : decide (a0 < 0) = true := decide_eq_true c2
    clear c2
    obtain rfl := Option.some.inj H
    go_enter Tryz.func10, Tryz.ntmps10
    go_wp2_with (first | ((with_reducible refine gate_dst (N := 4) rfl ?_); (try (refine gate_guard (by rfl) ?_; dsimp only)); refine Kd.R_lit Kd.string _ 9 ?hg (N := 4) ?hd (xs := ([(⟨#[]⟩ : ByteArray), (⟨#[100, 105, 115, 112, 108, 97, 121]⟩ : ByteArray), (⟨#[119, 105, 100, 116, 104]⟩ : ByteArray), (⟨#[104, 101, 105, 103, 104, 116]⟩ : ByteArray), (⟨#[109, 97, 114, 103, 105, 110, 45, 116, 111, 112]⟩ : ByteArray), (⟨#[109, 97, 114, 103, 105, 110, 45, 114, 105, 103, 104, 116]⟩ : ByteArray), (⟨#[109, 97, 114, 103, 105, 110, 45, 98, 111, 116, 116, 111, 109]⟩ : ByteArray), (⟨#[109, 97, 114, 103, 105, 110, 45, 108, 101, 102, 116]⟩ : ByteArray), (⟨#[112, 97, 100, 100, 105, 110, 103, 45, 116, 111, 112]⟩ : ByteArray), (⟨#[112, 97, 100, 100, 105, 110, 103, 45, 114, 105, 103, 104, 116]⟩ : ByteArray), (⟨#[112, 97, 100, 100, 105, 110, 103, 45, 98, 111, 116, 116, 111, 109]⟩ : ByteArray), (⟨#[112, 97, 100, 100, 105, 110, 103, 45, 108, 101, 102, 116]⟩ : ByteArray), (⟨#[98, 111, 114, 100, 101, 114, 45, 116, 111, 112, 45, 119, 105, 100, 116, 104]⟩ : ByteArray), (⟨#[98, 111, 114, 100, 101, 114, 45, 114, 105, 103, 104, 116, 45, 119, 105, 100, 116, 104]⟩ : ByteArray), (⟨#[98, 111, 114, 100, 101, 114, 45, 98, 111, 116, 116, 111, 109, 45, 119, 105, 100, 116, 104]⟩ : ByteArray), (⟨#[98, 111, 114, 100, 101, 114, 45, 108, 101, 102, 116, 45, 119, 105, 100, 116, 104]⟩ : ByteArray), (⟨#[99, 111, 108, 111, 114]⟩ : ByteArray), (⟨#[98, 97, 99, 107, 103, 114, 111, 117, 110, 100, 45, 99, 111, 108, 111, 114]⟩ : ByteArray), (⟨#[102, 111, 110, 116, 45, 115, 105, 122, 101]⟩ : ByteArray), (⟨#[116, 101, 120, 116, 45, 97, 108, 105, 103, 110]⟩ : ByteArray), (⟨#[102, 108, 101, 120, 45, 103, 114, 111, 119]⟩ : ByteArray), (⟨#[102, 108, 101, 120, 45, 115, 104, 114, 105, 110, 107]⟩ : ByteArray), (⟨#[102, 108, 101, 120, 45, 100, 105, 114, 101, 99, 116, 105, 111, 110]⟩ : ByteArray), (⟨#[106, 117, 115, 116, 105, 102, 121, 45, 99, 111, 110, 116, 101, 110, 116]⟩ : ByteArray), (⟨#[111, 114, 100, 101, 114]⟩ : ByteArray), (⟨#[108, 101, 102, 116]⟩ : ByteArray), (⟨#[116, 111, 112]⟩ : ByteArray)] : List ByteArray)) (inner := [.string (⟨#[]⟩ : ByteArray), .string (⟨#[100, 105, 115, 112, 108, 97, 121]⟩ : ByteArray), .string (⟨#[119, 105, 100, 116, 104]⟩ : ByteArray), .string (⟨#[104, 101, 105, 103, 104, 116]⟩ : ByteArray), .string (⟨#[109, 97, 114, 103, 105, 110, 45, 116, 111, 112]⟩ : ByteArray), .string (⟨#[109, 97, 114, 103, 105, 110, 45, 114, 105, 103, 104, 116]⟩ : ByteArray), .string (⟨#[109, 97, 114, 103, 105, 110, 45, 98, 111, 116, 116, 111, 109]⟩ : ByteArray), .string (⟨#[109, 97, 114, 103, 105, 110, 45, 108, 101, 102, 116]⟩ : ByteArray), .string (⟨#[112, 97, 100, 100, 105, 110, 103, 45, 116, 111, 112]⟩ : ByteArray), .string (⟨#[112, 97, 100, 100, 105, 110, 103, 45, 114, 105, 103, 104, 116]⟩ : ByteArray), .string (⟨#[112, 97, 100, 100, 105, 110, 103, 45, 98, 111, 116, 116, 111, 109]⟩ : ByteArray), .string (⟨#[112, 97, 100, 100, 105, 110, 103, 45, 108, 101, 102, 116]⟩ : ByteArray), .string (⟨#[98, 111, 114, 100, 101, 114, 45, 116, 111, 112, 45, 119, 105, 100, 116, 104]⟩ : ByteArray), .string (⟨#[98, 111, 114, 100, 101, 114, 45, 114, 105, 103, 104, 116, 45, 119, 105, 100, 116, 104]⟩ : ByteArray), .string (⟨#[98, 111, 114, 100, 101, 114, 45, 98, 111, 116, 116, 111, 109, 45, 119, 105, 100, 116, 104]⟩ : ByteArray), .string (⟨#[98, 111, 114, 100, 101, 114, 45, 108, 101, 102, 116, 45, 119, 105, 100, 116, 104]⟩ : ByteArray), .string (⟨#[99, 111, 108, 111, 114]⟩ : ByteArray), .string (⟨#[98, 97, 99, 107, 103, 114, 111, 117, 110, 100, 45, 99, 111, 108, 111, 114]⟩ : ByteArray), .string (⟨#[102, 111, 110, 116, 45, 115, 105, 122, 101]⟩ : ByteArray), .string (⟨#[116, 101, 120, 116, 45, 97, 108, 105, 103, 110]⟩ : ByteArray), .string (⟨#[102, 108, 101, 120, 45, 103, 114, 111, 119]⟩ : ByteArray), .string (⟨#[102, 108, 101, 120, 45, 115, 104, 114, 105, 110, 107]⟩ : ByteArray), .string (⟨#[102, 108, 101, 120, 45, 100, 105, 114, 101, 99, 116, 105, 111, 110]⟩ : ByteArray), .string (⟨#[106, 117, 115, 116, 105, 102, 121, 45, 99, 111, 110, 116, 101, 110, 116]⟩ : ByteArray), .string (⟨#[111, 114, 100, 101, 114]⟩ : ByteArray), .string (⟨#[108, 101, 102, 116]⟩ : ByteArray), .string (⟨#[116, 111, 112]⟩ : ByteArray)]) (ok := fun _ => True) (okp := fun _ => True) ?hr ?hp (fun _ hk => hk) trivial (Below.refl _ _) (Nat.le_refl _) (by simp) ?_; (case hd => rfl); (case hg => rfl); (case hr => first | (go_simp; done) | (go_simp; rfl)); (case hp => exact (Reps.one (show Kd.M Kd.string _ _ _ (⟨#[]⟩ : ByteArray) [.string (⟨#[]⟩ : ByteArray)] from rfl) (Reps.one (show Kd.M Kd.string _ _ _ (⟨#[100, 105, 115, 112, 108, 97, 121]⟩ : ByteArray) [.string (⟨#[100, 105, 115, 112, 108, 97, 121]⟩ : ByteArray)] from rfl) (Reps.one (show Kd.M Kd.string _ _ _ (⟨#[119, 105, 100, 116, 104]⟩ : ByteArray) [.string (⟨#[119, 105, 100, 116, 104]⟩ : ByteArray)] from rfl) (Reps.one (show Kd.M Kd.string _ _ _ (⟨#[104, 101, 105, 103, 104, 116]⟩ : ByteArray) [.string (⟨#[104, 101, 105, 103, 104, 116]⟩ : ByteArray)] from rfl) (Reps.one (show Kd.M Kd.string _ _ _ (⟨#[109, 97, 114, 103, 105, 110, 45, 116, 111, 112]⟩ : ByteArray) [.string (⟨#[109, 97, 114, 103, 105, 110, 45, 116, 111, 112]⟩ : ByteArray)] from rfl) (Reps.one (show Kd.M Kd.string _ _ _ (⟨#[109, 97, 114, 103, 105, 110, 45, 114, 105, 103, 104, 116]⟩ : ByteArray) [.string (⟨#[109, 97, 114, 103, 105, 110, 45, 114, 105, 103, 104, 116]⟩ : ByteArray)] from rfl) (Reps.one (show Kd.M Kd.string _ _ _ (⟨#[109, 97, 114, 103, 105, 110, 45, 98, 111, 116, 116, 111, 109]⟩ : ByteArray) [.string (⟨#[109, 97, 114, 103, 105, 110, 45, 98, 111, 116, 116, 111, 109]⟩ : ByteArray)] from rfl) (Reps.one (show Kd.M Kd.string _ _ _ (⟨#[109, 97, 114, 103, 105, 110, 45, 108, 101, 102, 116]⟩ : ByteArray) [.string (⟨#[109, 97, 114, 103, 105, 110, 45, 108, 101, 102, 116]⟩ : ByteArray)] from rfl) (Reps.one (show Kd.M Kd.string _ _ _ (⟨#[112, 97, 100, 100, 105, 110, 103, 45, 116, 111, 112]⟩ : ByteArray) [.string (⟨#[112, 97, 100, 100, 105, 110, 103, 45, 116, 111, 112]⟩ : ByteArray)] from rfl) (Reps.one (show Kd.M Kd.string _ _ _ (⟨#[112, 97, 100, 100, 105, 110, 103, 45, 114, 105, 103, 104, 116]⟩ : ByteArray) [.string (⟨#[112, 97, 100, 100, 105, 110, 103, 45, 114, 105, 103, 104, 116]⟩ : ByteArray)] from rfl) (Reps.one (show Kd.M Kd.string _ _ _ (⟨#[112, 97, 100, 100, 105, 110, 103, 45, 98, 111, 116, 116, 111, 109]⟩ : ByteArray) [.string (⟨#[112, 97, 100, 100, 105, 110, 103, 45, 98, 111, 116, 116, 111, 109]⟩ : ByteArray)] from rfl) (Reps.one (show Kd.M Kd.string _ _ _ (⟨#[112, 97, 100, 100, 105, 110, 103, 45, 108, 101, 102, 116]⟩ : ByteArray) [.string (⟨#[112, 97, 100, 100, 105, 110, 103, 45, 108, 101, 102, 116]⟩ : ByteArray)] from rfl) (Reps.one (show Kd.M Kd.string _ _ _ (⟨#[98, 111, 114, 100, 101, 114, 45, 116, 111, 112, 45, 119, 105, 100, 116, 104]⟩ : ByteArray) [.string (⟨#[98, 111, 114, 100, 101, 114, 45, 116, 111, 112, 45, 119, 105, 100, 116, 104]⟩ : ByteArray)] from rfl) (Reps.one (show Kd.M Kd.string _ _ _ (⟨#[98, 111, 114, 100, 101, 114, 45, 114, 105, 103, 104, 116, 45, 119, 105, 100, 116, 104]⟩ : ByteArray) [.string (⟨#[98, 111, 114, 100, 101, 114, 45, 114, 105, 103, 104, 116, 45, 119, 105, 100, 116, 104]⟩ : ByteArray)] from rfl) (Reps.one (show Kd.M Kd.string _ _ _ (⟨#[98, 111, 114, 100, 101, 114, 45, 98, 111, 116, 116, 111, 109, 45, 119, 105, 100, 116, 104]⟩ : ByteArray) [.string (⟨#[98, 111, 114, 100, 101, 114, 45, 98, 111, 116, 116, 111, 109, 45, 119, 105, 100, 116, 104]⟩ : ByteArray)] from rfl) (Reps.one (show Kd.M Kd.string _ _ _ (⟨#[98, 111, 114, 100, 101, 114, 45, 108, 101, 102, 116, 45, 119, 105, 100, 116, 104]⟩ : ByteArray) [.string (⟨#[98, 111, 114, 100, 101, 114, 45, 108, 101, 102, 116, 45, 119, 105, 100, 116, 104]⟩ : ByteArray)] from rfl) (Reps.one (show Kd.M Kd.string _ _ _ (⟨#[99, 111, 108, 111, 114]⟩ : ByteArray) [.string (⟨#[99, 111, 108, 111, 114]⟩ : ByteArray)] from rfl) (Reps.one (show Kd.M Kd.string _ _ _ (⟨#[98, 97, 99, 107, 103, 114, 111, 117, 110, 100, 45, 99, 111, 108, 111, 114]⟩ : ByteArray) [.string (⟨#[98, 97, 99, 107, 103, 114, 111, 117, 110, 100, 45, 99, 111, 108, 111, 114]⟩ : ByteArray)] from rfl) (Reps.one (show Kd.M Kd.string _ _ _ (⟨#[102, 111, 110, 116, 45, 115, 105, 122, 101]⟩ : ByteArray) [.string (⟨#[102, 111, 110, 116, 45, 115, 105, 122, 101]⟩ : ByteArray)] from rfl) (Reps.one (show Kd.M Kd.string _ _ _ (⟨#[116, 101, 120, 116, 45, 97, 108, 105, 103, 110]⟩ : ByteArray) [.string (⟨#[116, 101, 120, 116, 45, 97, 108, 105, 103, 110]⟩ : ByteArray)] from rfl) (Reps.one (show Kd.M Kd.string _ _ _ (⟨#[102, 108, 101, 120, 45, 103, 114, 111, 119]⟩ : ByteArray) [.string (⟨#[102, 108, 101, 120, 45, 103, 114, 111, 119]⟩ : ByteArray)] from rfl) (Reps.one (show Kd.M Kd.string _ _ _ (⟨#[102, 108, 101, 120, 45, 115, 104, 114, 105, 110, 107]⟩ : ByteArray) [.string (⟨#[102, 108, 101, 120, 45, 115, 104, 114, 105, 110, 107]⟩ : ByteArray)] from rfl) (Reps.one (show Kd.M Kd.string _ _ _ (⟨#[102, 108, 101, 120, 45, 100, 105, 114, 101, 99, 116, 105, 111, 110]⟩ : ByteArray) [.string (⟨#[102, 108, 101, 120, 45, 100, 105, 114, 101, 99, 116, 105, 111, 110]⟩ : ByteArray)] from rfl) (Reps.one (show Kd.M Kd.string _ _ _ (⟨#[106, 117, 115, 116, 105, 102, 121, 45, 99, 111, 110, 116, 101, 110, 116]⟩ : ByteArray) [.string (⟨#[106, 117, 115, 116, 105, 102, 121, 45, 99, 111, 110, 116, 101, 110, 116]⟩ : ByteArray)] from rfl) (Reps.one (show Kd.M Kd.string _ _ _ (⟨#[111, 114, 100, 101, 114]⟩ : ByteArray) [.string (⟨#[111, 114, 100, 101, 114]⟩ : ByteArray)] from rfl) (Reps.one (show Kd.M Kd.string _ _ _ (⟨#[108, 101, 102, 116]⟩ : ByteArray) [.string (⟨#[108, 101, 102, 116]⟩ : ByteArray)] from rfl) (Reps.one (show Kd.M Kd.string _ _ _ (⟨#[116, 111, 112]⟩ : ByteArray) [.string (⟨#[116, 111, 112]⟩ : ByteArray)] from rfl) (Reps.none _ _))))))))))))))))))))))))))))); intro v216 w3 ho4 hb hg_ hnew_; clear hg_ hnew_; (first | rw [← Ny215.out] at ho4 | (simp only [Int.reduceToNat] at ho4; rw [← Ny215.out] at ho4)); have n0_ := Aside0.mk (Kd.R_lower ho4 (below_size (by repeat (first | (with_reducible first | exact HB.out | apply below_alloc | apply pw_below_drewN | apply below_drew1) | exact HB.out)))); have n1_ := Aside0.mk (below_step (by repeat (first | (with_reducible first | exact HB.out | apply below_alloc | apply pw_below_drewN | apply below_drew1) | exact HB.out)) hb); clear HB; have HO217 := n0_; have HB := n1_; clear n0_ n1_; clear hb ho4))
    go_ret
    exact ⟨by first | rfl | (simp [errW_none, errW_some] <;> rfl) | (simp [*, errW_none, errW_some] <;> rfl), by repeat (first | (with_reducible first | exact HB.out | apply below_alloc | apply pw_below_drewN | apply below_drew1) | exact HB.out)⟩
  · rw [if_neg c2] at H
    have c2b0 : decide (a0 < 0) = false := decide_eq_false c2
    clear c2
    by_cases c5 : a0 ≥ (y215.length : Int)
    · rw [if_pos c5] at H
      have c5b0 : decide ((y215.length : Int) ≤ a0) = true := decide_eq_true c5
      clear c5
      obtain rfl := Option.some.inj H
      go_enter Tryz.func10, Tryz.ntmps10
      go_wp2_with (first | ((with_reducible refine gate_dst (N := 4) rfl ?_); (try (refine gate_guard (by rfl) ?_; dsimp only)); refine Kd.R_lit Kd.string _ 9 ?hg (N := 4) ?hd (xs := ([(⟨#[]⟩ : ByteArray), (⟨#[100, 105, 115, 112, 108, 97, 121]⟩ : ByteArray), (⟨#[119, 105, 100, 116, 104]⟩ : ByteArray), (⟨#[104, 101, 105, 103, 104, 116]⟩ : ByteArray), (⟨#[109, 97, 114, 103, 105, 110, 45, 116, 111, 112]⟩ : ByteArray), (⟨#[109, 97, 114, 103, 105, 110, 45, 114, 105, 103, 104, 116]⟩ : ByteArray), (⟨#[109, 97, 114, 103, 105, 110, 45, 98, 111, 116, 116, 111, 109]⟩ : ByteArray), (⟨#[109, 97, 114, 103, 105, 110, 45, 108, 101, 102, 116]⟩ : ByteArray), (⟨#[112, 97, 100, 100, 105, 110, 103, 45, 116, 111, 112]⟩ : ByteArray), (⟨#[112, 97, 100, 100, 105, 110, 103, 45, 114, 105, 103, 104, 116]⟩ : ByteArray), (⟨#[112, 97, 100, 100, 105, 110, 103, 45, 98, 111, 116, 116, 111, 109]⟩ : ByteArray), (⟨#[112, 97, 100, 100, 105, 110, 103, 45, 108, 101, 102, 116]⟩ : ByteArray), (⟨#[98, 111, 114, 100, 101, 114, 45, 116, 111, 112, 45, 119, 105, 100, 116, 104]⟩ : ByteArray), (⟨#[98, 111, 114, 100, 101, 114, 45, 114, 105, 103, 104, 116, 45, 119, 105, 100, 116, 104]⟩ : ByteArray), (⟨#[98, 111, 114, 100, 101, 114, 45, 98, 111, 116, 116, 111, 109, 45, 119, 105, 100, 116, 104]⟩ : ByteArray), (⟨#[98, 111, 114, 100, 101, 114, 45, 108, 101, 102, 116, 45, 119, 105, 100, 116, 104]⟩ : ByteArray), (⟨#[99, 111, 108, 111, 114]⟩ : ByteArray), (⟨#[98, 97, 99, 107, 103, 114, 111, 117, 110, 100, 45, 99, 111, 108, 111, 114]⟩ : ByteArray), (⟨#[102, 111, 110, 116, 45, 115, 105, 122, 101]⟩ : ByteArray), (⟨#[116, 101, 120, 116, 45, 97, 108, 105, 103, 110]⟩ : ByteArray), (⟨#[102, 108, 101, 120, 45, 103, 114, 111, 119]⟩ : ByteArray), (⟨#[102, 108, 101, 120, 45, 115, 104, 114, 105, 110, 107]⟩ : ByteArray), (⟨#[102, 108, 101, 120, 45, 100, 105, 114, 101, 99, 116, 105, 111, 110]⟩ : ByteArray), (⟨#[106, 117, 115, 116, 105, 102, 121, 45, 99, 111, 110, 116, 101, 110, 116]⟩ : ByteArray), (⟨#[111, 114, 100, 101, 114]⟩ : ByteArray), (⟨#[108, 101, 102, 116]⟩ : ByteArray), (⟨#[116, 111, 112]⟩ : ByteArray)] : List ByteArray)) (inner := [.string (⟨#[]⟩ : ByteArray), .string (⟨#[100, 105, 115, 112, 108, 97, 121]⟩ : ByteArray), .string (⟨#[119, 105, 100, 116, 104]⟩ : ByteArray), .string (⟨#[104, 101, 105, 103, 104, 116]⟩ : ByteArray), .string (⟨#[109, 97, 114, 103, 105, 110, 45, 116, 111, 112]⟩ : ByteArray), .string (⟨#[109, 97, 114, 103, 105, 110, 45, 114, 105, 103, 104, 116]⟩ : ByteArray), .string (⟨#[109, 97, 114, 103, 105, 110, 45, 98, 111, 116, 116, 111, 109]⟩ : ByteArray), .string (⟨#[109, 97, 114, 103, 105, 110, 45, 108, 101, 102, 116]⟩ : ByteArray), .string (⟨#[112, 97, 100, 100, 105, 110, 103, 45, 116, 111, 112]⟩ : ByteArray), .string (⟨#[112, 97, 100, 100, 105, 110, 103, 45, 114, 105, 103, 104, 116]⟩ : ByteArray), .string (⟨#[112, 97, 100, 100, 105, 110, 103, 45, 98, 111, 116, 116, 111, 109]⟩ : ByteArray), .string (⟨#[112, 97, 100, 100, 105, 110, 103, 45, 108, 101, 102, 116]⟩ : ByteArray), .string (⟨#[98, 111, 114, 100, 101, 114, 45, 116, 111, 112, 45, 119, 105, 100, 116, 104]⟩ : ByteArray), .string (⟨#[98, 111, 114, 100, 101, 114, 45, 114, 105, 103, 104, 116, 45, 119, 105, 100, 116, 104]⟩ : ByteArray), .string (⟨#[98, 111, 114, 100, 101, 114, 45, 98, 111, 116, 116, 111, 109, 45, 119, 105, 100, 116, 104]⟩ : ByteArray), .string (⟨#[98, 111, 114, 100, 101, 114, 45, 108, 101, 102, 116, 45, 119, 105, 100, 116, 104]⟩ : ByteArray), .string (⟨#[99, 111, 108, 111, 114]⟩ : ByteArray), .string (⟨#[98, 97, 99, 107, 103, 114, 111, 117, 110, 100, 45, 99, 111, 108, 111, 114]⟩ : ByteArray), .string (⟨#[102, 111, 110, 116, 45, 115, 105, 122, 101]⟩ : ByteArray), .string (⟨#[116, 101, 120, 116, 45, 97, 108, 105, 103, 110]⟩ : ByteArray), .string (⟨#[102, 108, 101, 120, 45, 103, 114, 111, 119]⟩ : ByteArray), .string (⟨#[102, 108, 101, 120, 45, 115, 104, 114, 105, 110, 107]⟩ : ByteArray), .string (⟨#[102, 108, 101, 120, 45, 100, 105, 114, 101, 99, 116, 105, 111, 110]⟩ : ByteArray), .string (⟨#[106, 117, 115, 116, 105, 102, 121, 45, 99, 111, 110, 116, 101, 110, 116]⟩ : ByteArray), .string (⟨#[111, 114, 100, 101, 114]⟩ : ByteArray), .string (⟨#[108, 101, 102, 116]⟩ : ByteArray), .string (⟨#[116, 111, 112]⟩ : ByteArray)]) (ok := fun _ => True) (okp := fun _ => True) ?hr ?hp (fun _ hk => hk) trivial (Below.refl _ _) (Nat.le_refl _) (by simp) ?_; (case hd => rfl); (case hg => rfl); (case hr => first | (go_simp; done) | (go_simp; rfl)); (case hp => exact (Reps.one (show Kd.M Kd.string _ _ _ (⟨#[]⟩ : ByteArray) [.string (⟨#[]⟩ : ByteArray)] from rfl) (Reps.one (show Kd.M Kd.string _ _ _ (⟨#[100, 105, 115, 112, 108, 97, 121]⟩ : ByteArray) [.string (⟨#[100, 105, 115, 112, 108, 97, 121]⟩ : ByteArray)] from rfl) (Reps.one (show Kd.M Kd.string _ _ _ (⟨#[119, 105, 100, 116, 104]⟩ : ByteArray) [.string (⟨#[119, 105, 100, 116, 104]⟩ : ByteArray)] from rfl) (Reps.one (show Kd.M Kd.string _ _ _ (⟨#[104, 101, 105, 103, 104, 116]⟩ : ByteArray) [.string (⟨#[104, 101, 105, 103, 104, 116]⟩ : ByteArray)] from rfl) (Reps.one (show Kd.M Kd.string _ _ _ (⟨#[109, 97, 114, 103, 105, 110, 45, 116, 111, 112]⟩ : ByteArray) [.string (⟨#[109, 97, 114, 103, 105, 110, 45, 116, 111, 112]⟩ : ByteArray)] from rfl) (Reps.one (show Kd.M Kd.string _ _ _ (⟨#[109, 97, 114, 103, 105, 110, 45, 114, 105, 103, 104, 116]⟩ : ByteArray) [.string (⟨#[109, 97, 114, 103, 105, 110, 45, 114, 105, 103, 104, 116]⟩ : ByteArray)] from rfl) (Reps.one (show Kd.M Kd.string _ _ _ (⟨#[109, 97, 114, 103, 105, 110, 45, 98, 111, 116, 116, 111, 109]⟩ : ByteArray) [.string (⟨#[109, 97, 114, 103, 105, 110, 45, 98, 111, 116, 116, 111, 109]⟩ : ByteArray)] from rfl) (Reps.one (show Kd.M Kd.string _ _ _ (⟨#[109, 97, 114, 103, 105, 110, 45, 108, 101, 102, 116]⟩ : ByteArray) [.string (⟨#[109, 97, 114, 103, 105, 110, 45, 108, 101, 102, 116]⟩ : ByteArray)] from rfl) (Reps.one (show Kd.M Kd.string _ _ _ (⟨#[112, 97, 100, 100, 105, 110, 103, 45, 116, 111, 112]⟩ : ByteArray) [.string (⟨#[112, 97, 100, 100, 105, 110, 103, 45, 116, 111, 112]⟩ : ByteArray)] from rfl) (Reps.one (show Kd.M Kd.string _ _ _ (⟨#[112, 97, 100, 100, 105, 110, 103, 45, 114, 105, 103, 104, 116]⟩ : ByteArray) [.string (⟨#[112, 97, 100, 100, 105, 110, 103, 45, 114, 105, 103, 104, 116]⟩ : ByteArray)] from rfl) (Reps.one (show Kd.M Kd.string _ _ _ (⟨#[112, 97, 100, 100, 105, 110, 103, 45, 98, 111, 116, 116, 111, 109]⟩ : ByteArray) [.string (⟨#[112, 97, 100, 100, 105, 110, 103, 45, 98, 111, 116, 116, 111, 109]⟩ : ByteArray)] from rfl) (Reps.one (show Kd.M Kd.string _ _ _ (⟨#[112, 97, 100, 100, 105, 110, 103, 45, 108, 101, 102, 116]⟩ : ByteArray) [.string (⟨#[112, 97, 100, 100, 105, 110, 103, 45, 108, 101, 102, 116]⟩ : ByteArray)] from rfl) (Reps.one (show Kd.M Kd.string _ _ _ (⟨#[98, 111, 114, 100, 101, 114, 45, 116, 111, 112, 45, 119, 105, 100, 116, 104]⟩ : ByteArray) [.string (⟨#[98, 111, 114, 100, 101, 114, 45, 116, 111, 112, 45, 119, 105, 100, 116, 104]⟩ : ByteArray)] from rfl) (Reps.one (show Kd.M Kd.string _ _ _ (⟨#[98, 111, 114, 100, 101, 114, 45, 114, 105, 103, 104, 116, 45, 119, 105, 100, 116, 104]⟩ : ByteArray) [.string (⟨#[98, 111, 114, 100, 101, 114, 45, 114, 105, 103, 104, 116, 45, 119, 105, 100, 116, 104]⟩ : ByteArray)] from rfl) (Reps.one (show Kd.M Kd.string _ _ _ (⟨#[98, 111, 114, 100, 101, 114, 45, 98, 111, 116, 116, 111, 109, 45, 119, 105, 100, 116, 104]⟩ : ByteArray) [.string (⟨#[98, 111, 114, 100, 101, 114, 45, 98, 111, 116, 116, 111, 109, 45, 119, 105, 100, 116, 104]⟩ : ByteArray)] from rfl) (Reps.one (show Kd.M Kd.string _ _ _ (⟨#[98, 111, 114, 100, 101, 114, 45, 108, 101, 102, 116, 45, 119, 105, 100, 116, 104]⟩ : ByteArray) [.string (⟨#[98, 111, 114, 100, 101, 114, 45, 108, 101, 102, 116, 45, 119, 105, 100, 116, 104]⟩ : ByteArray)] from rfl) (Reps.one (show Kd.M Kd.string _ _ _ (⟨#[99, 111, 108, 111, 114]⟩ : ByteArray) [.string (⟨#[99, 111, 108, 111, 114]⟩ : ByteArray)] from rfl) (Reps.one (show Kd.M Kd.string _ _ _ (⟨#[98, 97, 99, 107, 103, 114, 111, 117, 110, 100, 45, 99, 111, 108, 111, 114]⟩ : ByteArray) [.string (⟨#[98, 97, 99, 107, 103, 114, 111, 117, 110, 100, 45, 99, 111, 108, 111, 114]⟩ : ByteArray)] from rfl) (Reps.one (show Kd.M Kd.string _ _ _ (⟨#[102, 111, 110, 116, 45, 115, 105, 122, 101]⟩ : ByteArray) [.string (⟨#[102, 111, 110, 116, 45, 115, 105, 122, 101]⟩ : ByteArray)] from rfl) (Reps.one (show Kd.M Kd.string _ _ _ (⟨#[116, 101, 120, 116, 45, 97, 108, 105, 103, 110]⟩ : ByteArray) [.string (⟨#[116, 101, 120, 116, 45, 97, 108, 105, 103, 110]⟩ : ByteArray)] from rfl) (Reps.one (show Kd.M Kd.string _ _ _ (⟨#[102, 108, 101, 120, 45, 103, 114, 111, 119]⟩ : ByteArray) [.string (⟨#[102, 108, 101, 120, 45, 103, 114, 111, 119]⟩ : ByteArray)] from rfl) (Reps.one (show Kd.M Kd.string _ _ _ (⟨#[102, 108, 101, 120, 45, 115, 104, 114, 105, 110, 107]⟩ : ByteArray) [.string (⟨#[102, 108, 101, 120, 45, 115, 104, 114, 105, 110, 107]⟩ : ByteArray)] from rfl) (Reps.one (show Kd.M Kd.string _ _ _ (⟨#[102, 108, 101, 120, 45, 100, 105, 114, 101, 99, 116, 105, 111, 110]⟩ : ByteArray) [.string (⟨#[102, 108, 101, 120, 45, 100, 105, 114, 101, 99, 116, 105, 111, 110]⟩ : ByteArray)] from rfl) (Reps.one (show Kd.M Kd.string _ _ _ (⟨#[106, 117, 115, 116, 105, 102, 121, 45, 99, 111, 110, 116, 101, 110, 116]⟩ : ByteArray) [.string (⟨#[106, 117, 115, 116, 105, 102, 121, 45, 99, 111, 110, 116, 101, 110, 116]⟩ : ByteArray)] from rfl) (Reps.one (show Kd.M Kd.string _ _ _ (⟨#[111, 114, 100, 101, 114]⟩ : ByteArray) [.string (⟨#[111, 114, 100, 101, 114]⟩ : ByteArray)] from rfl) (Reps.one (show Kd.M Kd.string _ _ _ (⟨#[108, 101, 102, 116]⟩ : ByteArray) [.string (⟨#[108, 101, 102, 116]⟩ : ByteArray)] from rfl) (Reps.one (show Kd.M Kd.string _ _ _ (⟨#[116, 111, 112]⟩ : ByteArray) [.string (⟨#[116, 111, 112]⟩ : ByteArray)] from rfl) (Reps.none _ _))))))))))))))))))))))))))))); intro v216 w6 ho7 hb hg_ hnew_; clear hg_ hnew_; (first | rw [← Ny215.out] at ho7 | (simp only [Int.reduceToNat] at ho7; rw [← Ny215.out] at ho7)); have n0_ := Aside0.mk (Kd.R_lower ho7 (below_size (by repeat (first | (with_reducible first | exact HB.out | apply below_alloc | apply pw_below_drewN | apply below_drew1) | exact HB.out)))); have n1_ := Aside0.mk (below_step (by repeat (first | (with_reducible first | exact HB.out | apply below_alloc | apply pw_below_drewN | apply below_drew1) | exact HB.out)) hb); clear HB; have HO217 := n0_; have HB := n1_; clear n0_ n1_; clear hb ho7; obtain ⟨Ao8, co8, eo8⟩ := Kd.R_slice HO217.out; subst eo8))
      go_ret
      exact ⟨by first | rfl | (simp [errW_none, errW_some] <;> rfl) | (simp [*, errW_none, errW_some] <;> rfl), by repeat (first | (with_reducible first | exact HB.out | apply below_alloc | apply pw_below_drewN | apply below_drew1) | exact HB.out)⟩
    · rw [if_neg c5] at H
      have c5b0 : decide ((y215.length : Int) ≤ a0) = false := decide_eq_false c5
      clear c5
      by_cases c9 : 0 ≤ a0
      · rw [if_pos c9] at H
        have c9b0 : decide (0 ≤ a0) = true := decide_eq_true c9
        clear c9
        by_cases c10 : a0 < (y215.length : Int)
        · rw [if_pos c10] at H
          have c10b0 : decide (a0 < (y215.length : Int)) = true := decide_eq_true c10
          clear c10
          obtain rfl := Option.some.inj H
          go_enter Tryz.func10, Tryz.ntmps10
          go_wp2_with (first | ((with_reducible refine gate_dst (N := 4) rfl ?_); (try (refine gate_guard (by rfl) ?_; dsimp only)); refine Kd.R_lit Kd.string _ 9 ?hg (N := 4) ?hd (xs := ([(⟨#[]⟩ : ByteArray), (⟨#[100, 105, 115, 112, 108, 97, 121]⟩ : ByteArray), (⟨#[119, 105, 100, 116, 104]⟩ : ByteArray), (⟨#[104, 101, 105, 103, 104, 116]⟩ : ByteArray), (⟨#[109, 97, 114, 103, 105, 110, 45, 116, 111, 112]⟩ : ByteArray), (⟨#[109, 97, 114, 103, 105, 110, 45, 114, 105, 103, 104, 116]⟩ : ByteArray), (⟨#[109, 97, 114, 103, 105, 110, 45, 98, 111, 116, 116, 111, 109]⟩ : ByteArray), (⟨#[109, 97, 114, 103, 105, 110, 45, 108, 101, 102, 116]⟩ : ByteArray), (⟨#[112, 97, 100, 100, 105, 110, 103, 45, 116, 111, 112]⟩ : ByteArray), (⟨#[112, 97, 100, 100, 105, 110, 103, 45, 114, 105, 103, 104, 116]⟩ : ByteArray), (⟨#[112, 97, 100, 100, 105, 110, 103, 45, 98, 111, 116, 116, 111, 109]⟩ : ByteArray), (⟨#[112, 97, 100, 100, 105, 110, 103, 45, 108, 101, 102, 116]⟩ : ByteArray), (⟨#[98, 111, 114, 100, 101, 114, 45, 116, 111, 112, 45, 119, 105, 100, 116, 104]⟩ : ByteArray), (⟨#[98, 111, 114, 100, 101, 114, 45, 114, 105, 103, 104, 116, 45, 119, 105, 100, 116, 104]⟩ : ByteArray), (⟨#[98, 111, 114, 100, 101, 114, 45, 98, 111, 116, 116, 111, 109, 45, 119, 105, 100, 116, 104]⟩ : ByteArray), (⟨#[98, 111, 114, 100, 101, 114, 45, 108, 101, 102, 116, 45, 119, 105, 100, 116, 104]⟩ : ByteArray), (⟨#[99, 111, 108, 111, 114]⟩ : ByteArray), (⟨#[98, 97, 99, 107, 103, 114, 111, 117, 110, 100, 45, 99, 111, 108, 111, 114]⟩ : ByteArray), (⟨#[102, 111, 110, 116, 45, 115, 105, 122, 101]⟩ : ByteArray), (⟨#[116, 101, 120, 116, 45, 97, 108, 105, 103, 110]⟩ : ByteArray), (⟨#[102, 108, 101, 120, 45, 103, 114, 111, 119]⟩ : ByteArray), (⟨#[102, 108, 101, 120, 45, 115, 104, 114, 105, 110, 107]⟩ : ByteArray), (⟨#[102, 108, 101, 120, 45, 100, 105, 114, 101, 99, 116, 105, 111, 110]⟩ : ByteArray), (⟨#[106, 117, 115, 116, 105, 102, 121, 45, 99, 111, 110, 116, 101, 110, 116]⟩ : ByteArray), (⟨#[111, 114, 100, 101, 114]⟩ : ByteArray), (⟨#[108, 101, 102, 116]⟩ : ByteArray), (⟨#[116, 111, 112]⟩ : ByteArray)] : List ByteArray)) (inner := [.string (⟨#[]⟩ : ByteArray), .string (⟨#[100, 105, 115, 112, 108, 97, 121]⟩ : ByteArray), .string (⟨#[119, 105, 100, 116, 104]⟩ : ByteArray), .string (⟨#[104, 101, 105, 103, 104, 116]⟩ : ByteArray), .string (⟨#[109, 97, 114, 103, 105, 110, 45, 116, 111, 112]⟩ : ByteArray), .string (⟨#[109, 97, 114, 103, 105, 110, 45, 114, 105, 103, 104, 116]⟩ : ByteArray), .string (⟨#[109, 97, 114, 103, 105, 110, 45, 98, 111, 116, 116, 111, 109]⟩ : ByteArray), .string (⟨#[109, 97, 114, 103, 105, 110, 45, 108, 101, 102, 116]⟩ : ByteArray), .string (⟨#[112, 97, 100, 100, 105, 110, 103, 45, 116, 111, 112]⟩ : ByteArray), .string (⟨#[112, 97, 100, 100, 105, 110, 103, 45, 114, 105, 103, 104, 116]⟩ : ByteArray), .string (⟨#[112, 97, 100, 100, 105, 110, 103, 45, 98, 111, 116, 116, 111, 109]⟩ : ByteArray), .string (⟨#[112, 97, 100, 100, 105, 110, 103, 45, 108, 101, 102, 116]⟩ : ByteArray), .string (⟨#[98, 111, 114, 100, 101, 114, 45, 116, 111, 112, 45, 119, 105, 100, 116, 104]⟩ : ByteArray), .string (⟨#[98, 111, 114, 100, 101, 114, 45, 114, 105, 103, 104, 116, 45, 119, 105, 100, 116, 104]⟩ : ByteArray), .string (⟨#[98, 111, 114, 100, 101, 114, 45, 98, 111, 116, 116, 111, 109, 45, 119, 105, 100, 116, 104]⟩ : ByteArray), .string (⟨#[98, 111, 114, 100, 101, 114, 45, 108, 101, 102, 116, 45, 119, 105, 100, 116, 104]⟩ : ByteArray), .string (⟨#[99, 111, 108, 111, 114]⟩ : ByteArray), .string (⟨#[98, 97, 99, 107, 103, 114, 111, 117, 110, 100, 45, 99, 111, 108, 111, 114]⟩ : ByteArray), .string (⟨#[102, 111, 110, 116, 45, 115, 105, 122, 101]⟩ : ByteArray), .string (⟨#[116, 101, 120, 116, 45, 97, 108, 105, 103, 110]⟩ : ByteArray), .string (⟨#[102, 108, 101, 120, 45, 103, 114, 111, 119]⟩ : ByteArray), .string (⟨#[102, 108, 101, 120, 45, 115, 104, 114, 105, 110, 107]⟩ : ByteArray), .string (⟨#[102, 108, 101, 120, 45, 100, 105, 114, 101, 99, 116, 105, 111, 110]⟩ : ByteArray), .string (⟨#[106, 117, 115, 116, 105, 102, 121, 45, 99, 111, 110, 116, 101, 110, 116]⟩ : ByteArray), .string (⟨#[111, 114, 100, 101, 114]⟩ : ByteArray), .string (⟨#[108, 101, 102, 116]⟩ : ByteArray), .string (⟨#[116, 111, 112]⟩ : ByteArray)]) (ok := fun _ => True) (okp := fun _ => True) ?hr ?hp (fun _ hk => hk) trivial (Below.refl _ _) (Nat.le_refl _) (by simp) ?_; (case hd => rfl); (case hg => rfl); (case hr => first | (go_simp; done) | (go_simp; rfl)); (case hp => exact (Reps.one (show Kd.M Kd.string _ _ _ (⟨#[]⟩ : ByteArray) [.string (⟨#[]⟩ : ByteArray)] from rfl) (Reps.one (show Kd.M Kd.string _ _ _ (⟨#[100, 105, 115, 112, 108, 97, 121]⟩ : ByteArray) [.string (⟨#[100, 105, 115, 112, 108, 97, 121]⟩ : ByteArray)] from rfl) (Reps.one (show Kd.M Kd.string _ _ _ (⟨#[119, 105, 100, 116, 104]⟩ : ByteArray) [.string (⟨#[119, 105, 100, 116, 104]⟩ : ByteArray)] from rfl) (Reps.one (show Kd.M Kd.string _ _ _ (⟨#[104, 101, 105, 103, 104, 116]⟩ : ByteArray) [.string (⟨#[104, 101, 105, 103, 104, 116]⟩ : ByteArray)] from rfl) (Reps.one (show Kd.M Kd.string _ _ _ (⟨#[109, 97, 114, 103, 105, 110, 45, 116, 111, 112]⟩ : ByteArray) [.string (⟨#[109, 97, 114, 103, 105, 110, 45, 116, 111, 112]⟩ : ByteArray)] from rfl) (Reps.one (show Kd.M Kd.string _ _ _ (⟨#[109, 97, 114, 103, 105, 110, 45, 114, 105, 103, 104, 116]⟩ : ByteArray) [.string (⟨#[109, 97, 114, 103, 105, 110, 45, 114, 105, 103, 104, 116]⟩ : ByteArray)] from rfl) (Reps.one (show Kd.M Kd.string _ _ _ (⟨#[109, 97, 114, 103, 105, 110, 45, 98, 111, 116, 116, 111, 109]⟩ : ByteArray) [.string (⟨#[109, 97, 114, 103, 105, 110, 45, 98, 111, 116, 116, 111, 109]⟩ : ByteArray)] from rfl) (Reps.one (show Kd.M Kd.string _ _ _ (⟨#[109, 97, 114, 103, 105, 110, 45, 108, 101, 102, 116]⟩ : ByteArray) [.string (⟨#[109, 97, 114, 103, 105, 110, 45, 108, 101, 102, 116]⟩ : ByteArray)] from rfl) (Reps.one (show Kd.M Kd.string _ _ _ (⟨#[112, 97, 100, 100, 105, 110, 103, 45, 116, 111, 112]⟩ : ByteArray) [.string (⟨#[112, 97, 100, 100, 105, 110, 103, 45, 116, 111, 112]⟩ : ByteArray)] from rfl) (Reps.one (show Kd.M Kd.string _ _ _ (⟨#[112, 97, 100, 100, 105, 110, 103, 45, 114, 105, 103, 104, 116]⟩ : ByteArray) [.string (⟨#[112, 97, 100, 100, 105, 110, 103, 45, 114, 105, 103, 104, 116]⟩ : ByteArray)] from rfl) (Reps.one (show Kd.M Kd.string _ _ _ (⟨#[112, 97, 100, 100, 105, 110, 103, 45, 98, 111, 116, 116, 111, 109]⟩ : ByteArray) [.string (⟨#[112, 97, 100, 100, 105, 110, 103, 45, 98, 111, 116, 116, 111, 109]⟩ : ByteArray)] from rfl) (Reps.one (show Kd.M Kd.string _ _ _ (⟨#[112, 97, 100, 100, 105, 110, 103, 45, 108, 101, 102, 116]⟩ : ByteArray) [.string (⟨#[112, 97, 100, 100, 105, 110, 103, 45, 108, 101, 102, 116]⟩ : ByteArray)] from rfl) (Reps.one (show Kd.M Kd.string _ _ _ (⟨#[98, 111, 114, 100, 101, 114, 45, 116, 111, 112, 45, 119, 105, 100, 116, 104]⟩ : ByteArray) [.string (⟨#[98, 111, 114, 100, 101, 114, 45, 116, 111, 112, 45, 119, 105, 100, 116, 104]⟩ : ByteArray)] from rfl) (Reps.one (show Kd.M Kd.string _ _ _ (⟨#[98, 111, 114, 100, 101, 114, 45, 114, 105, 103, 104, 116, 45, 119, 105, 100, 116, 104]⟩ : ByteArray) [.string (⟨#[98, 111, 114, 100, 101, 114, 45, 114, 105, 103, 104, 116, 45, 119, 105, 100, 116, 104]⟩ : ByteArray)] from rfl) (Reps.one (show Kd.M Kd.string _ _ _ (⟨#[98, 111, 114, 100, 101, 114, 45, 98, 111, 116, 116, 111, 109, 45, 119, 105, 100, 116, 104]⟩ : ByteArray) [.string (⟨#[98, 111, 114, 100, 101, 114, 45, 98, 111, 116, 116, 111, 109, 45, 119, 105, 100, 116, 104]⟩ : ByteArray)] from rfl) (Reps.one (show Kd.M Kd.string _ _ _ (⟨#[98, 111, 114, 100, 101, 114, 45, 108, 101, 102, 116, 45, 119, 105, 100, 116, 104]⟩ : ByteArray) [.string (⟨#[98, 111, 114, 100, 101, 114, 45, 108, 101, 102, 116, 45, 119, 105, 100, 116, 104]⟩ : ByteArray)] from rfl) (Reps.one (show Kd.M Kd.string _ _ _ (⟨#[99, 111, 108, 111, 114]⟩ : ByteArray) [.string (⟨#[99, 111, 108, 111, 114]⟩ : ByteArray)] from rfl) (Reps.one (show Kd.M Kd.string _ _ _ (⟨#[98, 97, 99, 107, 103, 114, 111, 117, 110, 100, 45, 99, 111, 108, 111, 114]⟩ : ByteArray) [.string (⟨#[98, 97, 99, 107, 103, 114, 111, 117, 110, 100, 45, 99, 111, 108, 111, 114]⟩ : ByteArray)] from rfl) (Reps.one (show Kd.M Kd.string _ _ _ (⟨#[102, 111, 110, 116, 45, 115, 105, 122, 101]⟩ : ByteArray) [.string (⟨#[102, 111, 110, 116, 45, 115, 105, 122, 101]⟩ : ByteArray)] from rfl) (Reps.one (show Kd.M Kd.string _ _ _ (⟨#[116, 101, 120, 116, 45, 97, 108, 105, 103, 110]⟩ : ByteArray) [.string (⟨#[116, 101, 120, 116, 45, 97, 108, 105, 103, 110]⟩ : ByteArray)] from rfl) (Reps.one (show Kd.M Kd.string _ _ _ (⟨#[102, 108, 101, 120, 45, 103, 114, 111, 119]⟩ : ByteArray) [.string (⟨#[102, 108, 101, 120, 45, 103, 114, 111, 119]⟩ : ByteArray)] from rfl) (Reps.one (show Kd.M Kd.string _ _ _ (⟨#[102, 108, 101, 120, 45, 115, 104, 114, 105, 110, 107]⟩ : ByteArray) [.string (⟨#[102, 108, 101, 120, 45, 115, 104, 114, 105, 110, 107]⟩ : ByteArray)] from rfl) (Reps.one (show Kd.M Kd.string _ _ _ (⟨#[102, 108, 101, 120, 45, 100, 105, 114, 101, 99, 116, 105, 111, 110]⟩ : ByteArray) [.string (⟨#[102, 108, 101, 120, 45, 100, 105, 114, 101, 99, 116, 105, 111, 110]⟩ : ByteArray)] from rfl) (Reps.one (show Kd.M Kd.string _ _ _ (⟨#[106, 117, 115, 116, 105, 102, 121, 45, 99, 111, 110, 116, 101, 110, 116]⟩ : ByteArray) [.string (⟨#[106, 117, 115, 116, 105, 102, 121, 45, 99, 111, 110, 116, 101, 110, 116]⟩ : ByteArray)] from rfl) (Reps.one (show Kd.M Kd.string _ _ _ (⟨#[111, 114, 100, 101, 114]⟩ : ByteArray) [.string (⟨#[111, 114, 100, 101, 114]⟩ : ByteArray)] from rfl) (Reps.one (show Kd.M Kd.string _ _ _ (⟨#[108, 101, 102, 116]⟩ : ByteArray) [.string (⟨#[108, 101, 102, 116]⟩ : ByteArray)] from rfl) (Reps.one (show Kd.M Kd.string _ _ _ (⟨#[116, 111, 112]⟩ : ByteArray) [.string (⟨#[116, 111, 112]⟩ : ByteArray)] from rfl) (Reps.none _ _))))))))))))))))))))))))))))); intro v216 w11 ho12 hb hg_ hnew_; clear hg_ hnew_; (first | rw [← Ny215.out] at ho12 | (simp only [Int.reduceToNat] at ho12; rw [← Ny215.out] at ho12)); have n0_ := Aside0.mk (Kd.R_lower ho12 (below_size (by repeat (first | (with_reducible first | exact HB.out | apply below_alloc | apply pw_below_drewN | apply below_drew1) | exact HB.out)))); have n1_ := Aside0.mk (below_step (by repeat (first | (with_reducible first | exact HB.out | apply below_alloc | apply pw_below_drewN | apply below_drew1) | exact HB.out)) hb); clear HB; have HO217 := n0_; have HB := n1_; clear n0_ n1_; clear hb ho12; obtain ⟨Ao13, co13, eo13⟩ := Kd.R_slice HO217.out; subst eo13; have p218 : 0 ≤ (a0 : Int) := of_decide_eq_true (by first | (with_reducible assumption) | assumption); have q218 : a0 < (y215.length : Int) := of_decide_eq_true (by first | (with_reducible assumption) | assumption); obtain ⟨ad218, e218, hx218_0⟩ := Kd.at_string (Kd.R_reads' HO217.out).2.2 a0 p218 q218; cases e218; replace p218 := eq_true p218; replace q218 := eq_true q218))
          go_ret
          exact ⟨by first | rfl | (simp [errW_none, errW_some] <;> rfl) | (simp [*, errW_none, errW_some] <;> rfl), by repeat (first | (with_reducible first | exact HB.out | apply below_alloc | apply pw_below_drewN | apply below_drew1) | exact HB.out)⟩
        · rw [if_neg c10] at H
          exact absurd H (by simp)
      · rw [if_neg c9] at H
        exact absurd H (by simp)

/-! ### scrimref08_Prop: function 8 -/
def scrimref08_Prop.l0 : Nat → ByteArray → Int → Option (Int)
  | 0, _, _ => none
  | k + 1, x0, x3 => if x3 ≤ 26 then ((scrimref08_Name.f x3).bind fun t219 => (if t219.toList = x0.toList then (some x3) else (scrimref08_Prop.l0 k x0 (wrap64 (x3 + 1))))) else (some 0)
def scrimref08_Prop.f (k : Nat) (a0 : ByteArray) : Option (Int) := scrimref08_Prop.l0 k a0 1
theorem scrimref08_Prop.mono_l : ∀ k, (∀ y0 y1, LeO (scrimref08_Prop.l0 k y0 y1) (scrimref08_Prop.l0 (k + 1) y0 y1))
  | 0 => fun _ _ r h => by simp [scrimref08_Prop.l0] at h
  | k + 1 => by
    have ih0 := scrimref08_Prop.mono_l k
    · intro y0 y1
      unfold scrimref08_Prop.l0
      repeat' first
      | (with_reducible exact ih0 _ _)
      | (with_reducible exact LeO.refl _)
      | (with_reducible exact LeO.none _)
      | (with_reducible refine LeO.ite ?_ ?_)
      | (with_reducible refine LeO.bind ?_ (fun _ => ?_))
      | exact ih0 _ _
      | exact LeO.none _
      | refine LeO.ite ?_ ?_
      | refine LeO.bind ?_ (fun _ => ?_)
theorem scrimref08_Prop.mono : ∀ a0 k, LeO (scrimref08_Prop.f k a0) (scrimref08_Prop.f (k + 1) a0) := by
  intro a0 k
  have ih0 := scrimref08_Prop.mono_l k
  unfold scrimref08_Prop.f
  repeat' first
      | (with_reducible exact ih0 _ _)
      | (with_reducible exact LeO.refl _)
      | (with_reducible exact LeO.none _)
      | (with_reducible refine LeO.ite ?_ ?_)
      | (with_reducible refine LeO.bind ?_ (fun _ => ?_))
      | exact ih0 _ _
      | exact LeO.none _
      | refine LeO.ite ?_ ?_
      | refine LeO.bind ?_ (fun _ => ?_)
set_option maxHeartbeats 8000000 in
set_option maxRecDepth 100000 in
theorem scrimref08_Prop.calls (k : Nat) (a0 : ByteArray) (r : Int) (w : World) (h : scrimref08_Prop.f k a0 = some r) :
    Calls Tryz.prog 8 #[.string a0] w fun e w' => e = .returned (.int .i64 r) ∧ Below w.heap.size w w' := by
  have HB := Aside0.mk (Below.refl w.heap.size w)
  have H : (scrimref08_Prop.l0 k a0 1) = some r := h
  clear h
  have H' := Aside0.mk H
  clear H
  go_enter Tryz.func8, Tryz.ntmps8
  go_wp2
  go_loopg [3] k (fun kq v3 w' => ∃ (x3_1 : Int), v3 = .int .i64 x3_1 ∧ Aside0 (scrimref08_Prop.l0 kq a0 x3_1 = some r) ∧ Aside0 (kq ≤ k) ∧ Aside0 (Below w.heap.size w w'))
  case atStart => exact ⟨(1), (by first | rfl | (simp; done) | (simp [*]; done)), H', ⟨Nat.le_refl _⟩, ⟨by repeat (first | (with_reducible first | exact HB.out | apply below_alloc | apply pw_below_drewN | apply below_drew1) | exact HB.out)⟩⟩
  case round =>
    clear H'
    obtain ⟨x3_1, rfl, HA, HK1, HB⟩ := hrel
    cases gk with
    | zero => exact absurd HA.out (by simp [scrimref08_Prop.l0])
    | succ k1 =>
      have H := HA.out
      clear HA
      simp only [scrimref08_Prop.l0] at H
      by_cases c2 : x3_1 ≤ 26
      · rw [if_pos c2] at H
        have c2b0 : decide (x3_1 ≤ 26) = true := decide_eq_true c2
        clear c2
        replace H := Option.bind_eq_some_iff.mp H
        obtain ⟨t219, A30, H⟩ := H
        replace H : (if t219.toList = a0.toList then (some x3_1) else (scrimref08_Prop.l0 k1 a0 (wrap64 (x3_1 + 1)))) = some r := H
        have A3 := Aside0.mk A30
        clear A30
        by_cases c4 : t219.toList = a0.toList
        · rw [if_pos c4] at H
          have c4b0 : (t219.toList == a0.toList) = true := beq_iff_eq.mpr c4
          have c4b1 : (t219.toList != a0.toList) = false := bne_eq_false_iff_eq.mpr c4
          clear c4
          obtain rfl := Option.some.inj H
          go_wp2_with (first | ((with_reducible refine gate_callee (f := 10) rfl ?_); refine goesL_ (some 9) rfl rfl Tryz.func10 (by kernel_rfl) rfl #[.int .i64 x3_1] rfl (by (try simp only [List.map_toArray, List.map_cons, List.map_nil]); first | done | rfl | (simp only [List.length_drop, List.length_take]; rfl)) ?_; (with_reducible refine (scrimref08_Name.calls x3_1 t219 _ A3.out).mono ?_); rintro e w5 ⟨rfl, hb⟩; refine ⟨_, rfl, ?_⟩; have n0_ := Aside0.mk (below_step (by repeat (first | (with_reducible first | exact HB.out | apply below_alloc | apply pw_below_drewN | apply below_drew1) | exact HB.out)) hb); clear HB; have HB := n0_; clear n0_; (try clear hb); (try clear hb2); (try clear hk); (try clear hi)))
          go_ret
          exact ⟨by first | rfl | (simp [errW_none, errW_some] <;> rfl) | (simp [*, errW_none, errW_some] <;> rfl), by repeat (first | (with_reducible first | exact HB.out | apply below_alloc | apply pw_below_drewN | apply below_drew1) | exact HB.out)⟩
        · rw [if_neg c4] at H
          have c4b0 : (t219.toList == a0.toList) = false := beq_eq_false_iff_ne.mpr c4
          have c4b1 : (t219.toList != a0.toList) = true := bne_iff_ne.mpr c4
          have H' := Aside0.mk H
          clear H
          go_wp2_with (first | ((with_reducible refine gate_callee (f := 10) rfl ?_); refine goesL_ (some 9) rfl rfl Tryz.func10 (by kernel_rfl) rfl #[.int .i64 x3_1] rfl (by (try simp only [List.map_toArray, List.map_cons, List.map_nil]); first | done | rfl | (simp only [List.length_drop, List.length_take]; rfl)) ?_; (with_reducible refine (scrimref08_Name.calls x3_1 t219 _ A3.out).mono ?_); rintro e w6 ⟨rfl, hb⟩; refine ⟨_, rfl, ?_⟩; have n0_ := Aside0.mk (below_step (by repeat (first | (with_reducible first | exact HB.out | apply below_alloc | apply pw_below_drewN | apply below_drew1) | exact HB.out)) hb); clear HB; have HB := n0_; clear n0_; (try clear hb); (try clear hb2); (try clear hk); (try clear hi)))
          go_roundg k1
          case measure => have := HK1.out; omega
          case rel => exact ⟨(wrap64 (x3_1 + 1)), (by first | rfl | (simp; done) | (simp [*]; done)), H', ⟨by have := HK1.out; omega⟩, ⟨by repeat (first | (with_reducible first | exact HB.out | apply below_alloc | apply pw_below_drewN | apply below_drew1) | exact HB.out)⟩⟩
      · rw [if_neg c2] at H
        have c2b0 : decide (x3_1 ≤ 26) = false := decide_eq_false c2
        clear c2
        obtain rfl := Option.some.inj H
        go_wp2
        go_ret
        exact ⟨by first | rfl | (simp [errW_none, errW_some] <;> rfl) | (simp [*, errW_none, errW_some] <;> rfl), by repeat (first | (with_reducible first | exact HB.out | apply below_alloc | apply pw_below_drewN | apply below_drew1) | exact HB.out)⟩

/-! ### scrimref08_text: function 49 -/
def scrimref08_text.f : Nat → Int → Option (ByteArray)
  | 0, _ => none
  | k + 1, a0 => if a0 < 10 then (if 0 ≤ a0 then (if a0 ≤ (wrap64 (a0 + 1)) then (if (wrap64 (a0 + 1)) ≤ 10 then (some ((⟨#[48, 49, 50, 51, 52, 53, 54, 55, 56, 57]⟩ : ByteArray).extract (a0 : Int).toNat ((wrap64 (a0 + 1)) : Int).toNat)) else (none)) else (none)) else (none)) else ((scrimref08_text.f k (wrap64 (Int.tdiv a0 10))).bind fun t220 => ((scrimref08_text.f k (Int.tmod a0 10)).bind fun t221 => (if t220.size + t221.size ≤ 9223372036854775807 then (some (t220 ++ t221)) else (none))))
theorem scrimref08_text.mono_l : ∀ k, (∀ y0, LeO (scrimref08_text.f k y0) (scrimref08_text.f (k + 1) y0))
  | 0 => fun _ r h => by simp [scrimref08_text.f] at h
  | k + 1 => by
    have ih0 := scrimref08_text.mono_l k
    · intro y0
      unfold scrimref08_text.f
      repeat' first
      | (with_reducible exact ih0 _)
      | (with_reducible exact LeO.refl _)
      | (with_reducible exact LeO.none _)
      | (with_reducible refine LeO.ite ?_ ?_)
      | (with_reducible refine LeO.bind ?_ (fun _ => ?_))
      | exact ih0 _
      | exact LeO.none _
      | refine LeO.ite ?_ ?_
      | refine LeO.bind ?_ (fun _ => ?_)
theorem scrimref08_text.mono : ∀ a0 k, LeO (scrimref08_text.f k a0) (scrimref08_text.f (k + 1) a0) := by
  intro a0 k
  have ih0 := scrimref08_text.mono_l k
  exact ih0 a0
set_option maxHeartbeats 8000000 in
set_option maxRecDepth 100000 in
theorem scrimref08_text.calls (k : Nat) : ∀ (a0 : Int) (r : ByteArray) (w : World) (h : scrimref08_text.f k a0 = some r),
    Calls Tryz.prog 49 #[.int .i64 a0] w fun e w' => e = .returned (.string r) ∧ Drawn0 w w' := by
  induction k using Nat.strongRecOn with
  | _ k ih =>
  intro a0 r w h
  cases k with
  | zero => exact absurd h (by simp [scrimref08_text.f])
  | succ k =>
  simp only [scrimref08_text.f] at h
  have H : (if a0 < 10 then (if 0 ≤ a0 then (if a0 ≤ (wrap64 (a0 + 1)) then (if (wrap64 (a0 + 1)) ≤ 10 then (some ((⟨#[48, 49, 50, 51, 52, 53, 54, 55, 56, 57]⟩ : ByteArray).extract (a0 : Int).toNat ((wrap64 (a0 + 1)) : Int).toNat)) else (none)) else (none)) else (none)) else ((scrimref08_text.f k (wrap64 (Int.tdiv a0 10))).bind fun t220 => ((scrimref08_text.f k (Int.tmod a0 10)).bind fun t221 => (if t220.size + t221.size ≤ 9223372036854775807 then (some (t220 ++ t221)) else (none))))) = some r := h
  clear h
  by_cases c2 : a0 < 10
  · rw [if_pos c2] at H
    have c2b0 : decide (a0 < 10) = true := decide_eq_true c2
    clear c2
    by_cases c3 : 0 ≤ a0
    · rw [if_pos c3] at H
      have c3b0 := eq_true c3
      have c3b1 : decide (0 ≤ a0) = true := decide_eq_true c3
      clear c3
      by_cases c4 : a0 ≤ (wrap64 (a0 + 1))
      · rw [if_pos c4] at H
        have c4b0 := eq_true c4
        have c4b1 : decide (a0 ≤ (wrap64 (a0 + 1))) = true := decide_eq_true c4
        by_cases c5 : (wrap64 (a0 + 1)) ≤ 10
        · rw [if_pos c5] at H
          have c5b0 := eq_true c5
          have c5b1 : decide ((wrap64 (a0 + 1)) ≤ 10) = true := decide_eq_true c5
          obtain rfl := Option.some.inj H
          go_enter Tryz.func49, Tryz.ntmps49
          go_wp2
          go_ret
          exact ⟨by first | rfl | (simp; done) | (simp [*]; done), by repeat (first | exact Drawn0.refl _ | apply Drawn0.step)⟩
        · rw [if_neg c5] at H
          exact absurd H (by simp)
      · rw [if_neg c4] at H
        exact absurd H (by simp)
    · rw [if_neg c3] at H
      exact absurd H (by simp)
  · rw [if_neg c2] at H
    have c2b0 : decide (a0 < 10) = false := decide_eq_false c2
    clear c2
    replace H := Option.bind_eq_some_iff.mp H
    obtain ⟨t220, A60, H⟩ := H
    replace H : ((scrimref08_text.f k (Int.tmod a0 10)).bind fun t221 => (if t220.size + t221.size ≤ 9223372036854775807 then (some (t220 ++ t221)) else (none))) = some r := H
    have A6 := Aside0.mk A60
    clear A60
    replace H := Option.bind_eq_some_iff.mp H
    obtain ⟨t221, A70, H⟩ := H
    replace H : (if t220.size + t221.size ≤ 9223372036854775807 then (some (t220 ++ t221)) else (none)) = some r := H
    have A7 := Aside0.mk A70
    clear A70
    by_cases c8 : t220.size + t221.size ≤ 9223372036854775807
    · rw [if_pos c8] at H
      have c8b0 := eq_true c8
      have c8b1 : decide (t220.size + t221.size ≤ 9223372036854775807) = true := decide_eq_true c8
      try have c8b2 : (9223372036854775807 < t220.size + t221.size) = False := eq_false (Nat.not_lt.2 c8)
      obtain rfl := Option.some.inj H
      go_enter Tryz.func49, Tryz.ntmps49
      go_wp2_with (first | ((with_reducible refine gate_callee (f := 49) rfl ?_); refine goesL_ (some 11) rfl rfl Tryz.func49 (by kernel_rfl) rfl #[.int .i64 (wrap64 (Int.tdiv a0 10))] rfl (by (try simp only [List.map_toArray, List.map_cons, List.map_nil]); first | done | rfl | (simp only [List.length_drop, List.length_take]; rfl)) ?_; (with_reducible refine (ih k (by omega) (wrap64 (Int.tdiv a0 10)) t220 _ A6.out).mono ?_); rintro e w' ⟨rfl, ⟨nd, rfl⟩⟩; refine ⟨_, rfl, ?_⟩) | ((with_reducible refine gate_callee (f := 49) rfl ?_); refine goesL_ (some 14) rfl rfl Tryz.func49 (by kernel_rfl) rfl #[.int .i64 (Int.tmod a0 10)] rfl (by (try simp only [List.map_toArray, List.map_cons, List.map_nil]); first | done | rfl | (simp only [List.length_drop, List.length_take]; rfl)) ?_; (with_reducible refine (ih k (by omega) (Int.tmod a0 10) t221 _ A7.out).mono ?_); rintro e w' ⟨rfl, ⟨nd, rfl⟩⟩; refine ⟨_, rfl, ?_⟩))
      go_ret
      exact ⟨by first | rfl | (simp; done) | (simp [*]; done), by repeat (first | exact Drawn0.refl _ | apply Drawn0.step)⟩
    · rw [if_neg c8] at H
      exact absurd H (by simp)

/-! ### scrimref08_decimal: function 35 -/
mutual
def scrimref08_decimal.j0 : Nat → ByteArray → Int → Option (ByteArray)
  | 0, _, _ => none
  | k + 1, x3, x4 => scrimref08_decimal.l0 k x3 x4
def scrimref08_decimal.l0 : Nat → ByteArray → Int → Option (ByteArray)
  | 0, _, _ => none
  | k + 1, x3, x4 => if x4 > 0 then ((scrimref08_text.f k (wrap64 (Int.tdiv (wrap64 (10 * x4)) 64))).bind fun t224 => (if x3.size + t224.size ≤ 9223372036854775807 then (scrimref08_decimal.l0 k (x3 ++ t224) (Int.tmod (wrap64 (10 * x4)) 64)) else (none))) else (some x3)
def scrimref08_decimal.f : Nat → Int → Option (ByteArray)
  | 0, _ => none
  | k + 1, a0 => if a0 < 0 then ((scrimref08_decimal.f k (wrap64 (-a0))).bind fun t222 => (if 1 + t222.size ≤ 9223372036854775807 then (some ((⟨#[45]⟩ : ByteArray) ++ t222)) else (none))) else ((scrimref08_text.f k (wrap64 (Int.tdiv a0 64))).bind fun t223 => (if (Int.tmod a0 64) > 0 then (if t223.size + 1 ≤ 9223372036854775807 then (scrimref08_decimal.j0 k (t223 ++ (⟨#[46]⟩ : ByteArray)) (Int.tmod a0 64)) else (none)) else (scrimref08_decimal.j0 k t223 (Int.tmod a0 64))))
end
theorem scrimref08_decimal.mono_l : ∀ k, (∀ y0, LeO (scrimref08_decimal.f k y0) (scrimref08_decimal.f (k + 1) y0)) ∧ (∀ y0 y1, LeO (scrimref08_decimal.j0 k y0 y1) (scrimref08_decimal.j0 (k + 1) y0 y1)) ∧ (∀ y0 y1, LeO (scrimref08_decimal.l0 k y0 y1) (scrimref08_decimal.l0 (k + 1) y0 y1))
  | 0 => ⟨fun _ r h => by simp [scrimref08_decimal.f] at h, fun _ _ r h => by simp [scrimref08_decimal.j0] at h, fun _ _ r h => by simp [scrimref08_decimal.l0] at h⟩
  | k + 1 => by
    obtain ⟨ih0, ih1, ih2⟩ := scrimref08_decimal.mono_l k
    refine ⟨?_, ?_, ?_⟩
    · intro y0
      unfold scrimref08_decimal.f
      repeat' first
      | (with_reducible exact ih0 _)
      | (with_reducible exact ih1 _ _)
      | (with_reducible exact ih2 _ _)
      | (with_reducible exact scrimref08_text.mono _ _)
      | (with_reducible exact LeO.refl _)
      | (with_reducible exact LeO.none _)
      | (with_reducible refine LeO.ite ?_ ?_)
      | (with_reducible refine LeO.bind ?_ (fun _ => ?_))
      | exact ih0 _
      | exact ih1 _ _
      | exact ih2 _ _
      | exact scrimref08_text.mono _ _
      | exact LeO.none _
      | refine LeO.ite ?_ ?_
      | refine LeO.bind ?_ (fun _ => ?_)
    · intro y0 y1
      unfold scrimref08_decimal.j0
      repeat' first
      | (with_reducible exact ih0 _)
      | (with_reducible exact ih1 _ _)
      | (with_reducible exact ih2 _ _)
      | (with_reducible exact scrimref08_text.mono _ _)
      | (with_reducible exact LeO.refl _)
      | (with_reducible exact LeO.none _)
      | (with_reducible refine LeO.ite ?_ ?_)
      | (with_reducible refine LeO.bind ?_ (fun _ => ?_))
      | exact ih0 _
      | exact ih1 _ _
      | exact ih2 _ _
      | exact scrimref08_text.mono _ _
      | exact LeO.none _
      | refine LeO.ite ?_ ?_
      | refine LeO.bind ?_ (fun _ => ?_)
    · intro y0 y1
      unfold scrimref08_decimal.l0
      repeat' first
      | (with_reducible exact ih0 _)
      | (with_reducible exact ih1 _ _)
      | (with_reducible exact ih2 _ _)
      | (with_reducible exact scrimref08_text.mono _ _)
      | (with_reducible exact LeO.refl _)
      | (with_reducible exact LeO.none _)
      | (with_reducible refine LeO.ite ?_ ?_)
      | (with_reducible refine LeO.bind ?_ (fun _ => ?_))
      | exact ih0 _
      | exact ih1 _ _
      | exact ih2 _ _
      | exact scrimref08_text.mono _ _
      | exact LeO.none _
      | refine LeO.ite ?_ ?_
      | refine LeO.bind ?_ (fun _ => ?_)
theorem scrimref08_decimal.mono : ∀ a0 k, LeO (scrimref08_decimal.f k a0) (scrimref08_decimal.f (k + 1) a0) := by
  intro a0 k
  obtain ⟨ih0, ih1, ih2⟩ := scrimref08_decimal.mono_l k
  exact ih0 a0
set_option maxHeartbeats 8000000 in
set_option maxRecDepth 100000 in
theorem scrimref08_decimal.calls (k : Nat) : ∀ (a0 : Int) (r : ByteArray) (w : World) (h : scrimref08_decimal.f k a0 = some r),
    Calls Tryz.prog 35 #[.int .i64 a0] w fun e w' => e = .returned (.string r) ∧ Drawn0 w w' := by
  induction k using Nat.strongRecOn with
  | _ k ih =>
  intro a0 r w h
  cases k with
  | zero => exact absurd h (by simp [scrimref08_decimal.f])
  | succ k =>
  simp only [scrimref08_decimal.f] at h
  have H : (if a0 < 0 then ((scrimref08_decimal.f k (wrap64 (-a0))).bind fun t222 => (if 1 + t222.size ≤ 9223372036854775807 then (some ((⟨#[45]⟩ : ByteArray) ++ t222)) else (none))) else ((scrimref08_text.f k (wrap64 (Int.tdiv a0 64))).bind fun t223 => (if (Int.tmod a0 64) > 0 then (if t223.size + 1 ≤ 9223372036854775807 then (scrimref08_decimal.j0 k (t223 ++ (⟨#[46]⟩ : ByteArray)) (Int.tmod a0 64)) else (none)) else (scrimref08_decimal.j0 k t223 (Int.tmod a0 64))))) = some r := h
  clear h
  by_cases c2 : a0 < 0
  · rw [if_pos c2] at H
    have c2b0 : decide (a0 < 0) = true := decide_eq_true c2
    clear c2
    replace H := Option.bind_eq_some_iff.mp H
    obtain ⟨t222, A30, H⟩ := H
    replace H : (if 1 + t222.size ≤ 9223372036854775807 then (some ((⟨#[45]⟩ : ByteArray) ++ t222)) else (none)) = some r := H
    have A3 := Aside0.mk A30
    clear A30
    by_cases c4 : 1 + t222.size ≤ 9223372036854775807
    · rw [if_pos c4] at H
      have c4b0 := eq_true c4
      have c4b1 : decide (1 + t222.size ≤ 9223372036854775807) = true := decide_eq_true c4
      try have c4b2 : (9223372036854775807 < 1 + t222.size) = False := eq_false (Nat.not_lt.2 c4)
      obtain rfl := Option.some.inj H
      go_enter Tryz.func35, Tryz.ntmps35
      go_wp2_with (first | ((with_reducible refine gate_callee (f := 35) rfl ?_); refine goesL_ (some 9) rfl rfl Tryz.func35 (by kernel_rfl) rfl #[.int .i64 (wrap64 (-a0))] rfl (by (try simp only [List.map_toArray, List.map_cons, List.map_nil]); first | done | rfl | (simp only [List.length_drop, List.length_take]; rfl)) ?_; (with_reducible refine (ih k (by omega) (wrap64 (-a0)) t222 _ A3.out).mono ?_); rintro e w' ⟨rfl, ⟨nd, rfl⟩⟩; refine ⟨_, rfl, ?_⟩))
      go_ret
      exact ⟨by first | rfl | (simp; done) | (simp [*]; done), by repeat (first | exact Drawn0.refl _ | apply Drawn0.step)⟩
    · rw [if_neg c4] at H
      exact absurd H (by simp)
  · rw [if_neg c2] at H
    have c2b0 : decide (a0 < 0) = false := decide_eq_false c2
    clear c2
    replace H := Option.bind_eq_some_iff.mp H
    obtain ⟨t223, A50, H⟩ := H
    replace H : (if (Int.tmod a0 64) > 0 then (if t223.size + 1 ≤ 9223372036854775807 then (scrimref08_decimal.j0 k (t223 ++ (⟨#[46]⟩ : ByteArray)) (Int.tmod a0 64)) else (none)) else (scrimref08_decimal.j0 k t223 (Int.tmod a0 64))) = some r := H
    have A5 := Aside0.mk A50
    clear A50
    have HC6 := Aside0.mk H
    clear H
    go_enter Tryz.func35, Tryz.ntmps35
    go_upto_if 17 with (first | ((with_reducible refine gate_callee (f := 49) rfl ?_); refine goesL_ (some 13) rfl rfl Tryz.func49 (by kernel_rfl) rfl #[.int .i64 (wrap64 (Int.tdiv a0 64))] rfl (by (try simp only [List.map_toArray, List.map_cons, List.map_nil]); first | done | rfl | (simp only [List.length_drop, List.length_take]; rfl)) ?_; (with_reducible refine (scrimref08_text.calls k (wrap64 (Int.tdiv a0 64)) t223 _ A5.out).mono ?_); rintro e w' ⟨rfl, ⟨nd, rfl⟩⟩; refine ⟨_, rfl, ?_⟩))
    (try simp only [Act.put, List.setIfInBounds_toArray, List.set_cons_zero, List.set_cons_succ])
    go_cut [3] (fun v3 wc => ∃ (kq : Nat) (x3_5 : ByteArray), v3 = .string x3_5 ∧ Aside0 (scrimref08_decimal.j0 kq x3_5 (Int.tmod a0 64) = some r) ∧ Aside0 (kq ≤ k) ∧ Drawn0 w wc)
    case first =>
      have H := HC6.out
      clear HC6
      by_cases c7 : (Int.tmod a0 64) > 0
      · rw [if_pos c7] at H
        have c7b0 : decide (0 < (Int.tmod a0 64)) = true := decide_eq_true c7
        clear c7
        (first | rw [c7b0] | (simp only [i64_w, i32_w]; rw [c7b0]) | skip)
        by_cases c8 : t223.size + 1 ≤ 9223372036854775807
        · rw [if_pos c8] at H
          have c8b0 := eq_true c8
          have c8b1 : decide (t223.size + 1 ≤ 9223372036854775807) = true := decide_eq_true c8
          try have c8b2 : (9223372036854775807 < t223.size + 1) = False := eq_false (Nat.not_lt.2 c8)
          have H' := Aside0.mk H
          clear H
          go_wp2
          go_meet
          case rel => exact ⟨_, (t223 ++ (⟨#[46]⟩ : ByteArray)), (by first | rfl | (simp; done) | (simp [*]; done)), H', ⟨by first | omega | exact Nat.le_refl _⟩, by repeat (first | exact Drawn0.refl _ | apply Drawn0.step)⟩
        · rw [if_neg c8] at H
          exact absurd H (by simp)
      · rw [if_neg c7] at H
        have c7b0 : decide (0 < (Int.tmod a0 64)) = false := decide_eq_false c7
        clear c7
        (first | rw [c7b0] | (simp only [i64_w, i32_w]; rw [c7b0]) | skip)
        have H' := Aside0.mk H
        clear H
        go_wp2
        go_meet
        case rel => exact ⟨_, (t223), (by first | rfl | (simp; done) | (simp [*]; done)), H', ⟨by first | omega | exact Nat.le_refl _⟩, by repeat (first | exact Drawn0.refl _ | apply Drawn0.step)⟩
    case rest =>
      clear HC6
      try clear c2
      try clear c2b0
      try clear p2
      try clear c3
      try clear c4
      try clear c4b0
      try clear c4b1
      try clear c4b2
      try clear p6
      try clear c7
      try clear c7b0
      try clear c8
      try clear c8b0
      try clear c8b1
      try clear c8b2
      obtain ⟨kq, x3_5, rfl, HA, HJ5, ⟨mc5, rfl⟩⟩ := hcut
      cases kq with
      | zero => exact absurd HA.out (by simp [scrimref08_decimal.j0])
      | succ kj5 =>
        have H := HA.out
        clear HA
        simp only [scrimref08_decimal.j0] at H
        have H' := Aside0.mk H
        clear H
        go_wp2
        go_loopg [3, 4] kj5 (fun kq v3 v4 w' => ∃ (x3_2 : ByteArray) (x4_2 : Int), v3 = .string x3_2 ∧ v4 = .int .i64 x4_2 ∧ Aside0 (scrimref08_decimal.l0 kq x3_2 x4_2 = some r) ∧ Aside0 (kq ≤ kj5) ∧ Drawn0 w w')
        case atStart => exact ⟨(x3_5), ((Int.tmod a0 64)), (by first | rfl | (simp; done) | (simp [*]; done)), (by first | rfl | (simp; done) | (simp [*]; done)), H', ⟨Nat.le_refl _⟩, by repeat (first | exact Drawn0.refl _ | apply Drawn0.step)⟩
        case round =>
          clear H'
          try clear c2
          try clear c2b0
          try clear p2
          try clear c3
          try clear c4
          try clear c4b0
          try clear c4b1
          try clear c4b2
          try clear c5
          try clear p6
          try clear c7
          try clear c7b0
          try clear c8
          try clear c8b0
          try clear c8b1
          try clear c8b2
          try clear p2
          try clear p6
          obtain ⟨x3_2, x4_2, rfl, rfl, HA, HK2, ⟨m2, rfl⟩⟩ := hrel
          cases gk with
          | zero => exact absurd HA.out (by simp [scrimref08_decimal.l0])
          | succ k2 =>
            have H := HA.out
            clear HA
            simp only [scrimref08_decimal.l0] at H
            by_cases c9 : x4_2 > 0
            · rw [if_pos c9] at H
              have c9b0 : decide (0 < x4_2) = true := decide_eq_true c9
              clear c9
              replace H := Option.bind_eq_some_iff.mp H
              obtain ⟨t224, A100, H⟩ := H
              replace H : (if x3_2.size + t224.size ≤ 9223372036854775807 then (scrimref08_decimal.l0 k2 (x3_2 ++ t224) (Int.tmod (wrap64 (10 * x4_2)) 64)) else (none)) = some r := H
              have A10 := Aside0.mk A100
              clear A100
              by_cases c11 : x3_2.size + t224.size ≤ 9223372036854775807
              · rw [if_pos c11] at H
                have c11b0 := eq_true c11
                have c11b1 : decide (x3_2.size + t224.size ≤ 9223372036854775807) = true := decide_eq_true c11
                try have c11b2 : (9223372036854775807 < x3_2.size + t224.size) = False := eq_false (Nat.not_lt.2 c11)
                have H' := Aside0.mk H
                clear H
                go_wp2_with (first | ((with_reducible refine gate_callee (f := 49) rfl ?_); refine goesL_ (some 27) rfl rfl Tryz.func49 (by kernel_rfl) rfl #[.int .i64 (wrap64 (Int.tdiv (wrap64 (10 * x4_2)) 64))] rfl (by (try simp only [List.map_toArray, List.map_cons, List.map_nil]); first | done | rfl | (simp only [List.length_drop, List.length_take]; rfl)) ?_; (with_reducible refine (scrimref08_text.calls k2 (wrap64 (Int.tdiv (wrap64 (10 * x4_2)) 64)) t224 _ A10.out).mono ?_); rintro e w' ⟨rfl, ⟨nd, rfl⟩⟩; refine ⟨_, rfl, ?_⟩))
                go_roundg k2
                case measure => have := HJ5.out; have := HK2.out; omega
                case rel => exact ⟨(x3_2 ++ t224), (Int.tmod (wrap64 (10 * x4_2)) 64), (by first | rfl | (simp; done) | (simp [*]; done)), (by first | rfl | (simp; done) | (simp [*]; done)), H', ⟨by have := HJ5.out; have := HK2.out; omega⟩, by repeat (first | exact Drawn0.refl _ | apply Drawn0.step)⟩
              · rw [if_neg c11] at H
                exact absurd H (by simp)
            · rw [if_neg c9] at H
              have c9b0 : decide (0 < x4_2) = false := decide_eq_false c9
              clear c9
              obtain rfl := Option.some.inj H
              go_wp2
              go_ret
              exact ⟨by first | rfl | (simp; done) | (simp [*]; done), by repeat (first | exact Drawn0.refl _ | apply Drawn0.step)⟩

end Go.Proofs.YtmfhhlgjbjbnhaaGreatDoor.HV
