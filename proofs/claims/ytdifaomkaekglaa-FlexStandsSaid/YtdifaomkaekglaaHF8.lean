-- Written by a program of this session (wip/tools/hprint.py), which drives the kit's print; not print.sh's own output.
import Derived.Test.YtdifaomkaekglaaHF0
import Derived.Test.YtdifaomkaekglaaHF1
import Derived.Test.YtdifaomkaekglaaHF2
namespace Go.Proofs.Ytdifaomkaekglaa.HF
open Go.RowKit Go.Proofs.YtdifaomkaekglaaW.PrintWords Go.Proofs.YtdifaomkaekglaaW.PrintLast Go.Proofs.YtdifaomkaekglaaW.PrintMore
attribute [local go_sem] max2_int min2_int max_two min_two max_three min_three max_four min_four   -- for this text's walks alone
set_option linter.unusedVariables false
set_option linter.unusedSimpArgs false

/-! ### scrimlaw18_FlexStands: function 8 -/
mutual
def scrimlaw18_FlexStands.l0 : Nat → List Int → Int → Int → List Int → Bool → Int → List Int → Int → Int → Option (Bool)
  | 0, _, _, _, _, _, _, _, _, _ => none
  | k + 1, x0, x1, x2, x7, x8, x9, x34, x35, x36 => if x36 < x35 then (if 0 ≤ x36 then (if x36 < (x34.length : Int) then (if (rd x34 x36) < 0 then (some true) else (if (rd x34 x36) ≤ 1099511627776 then (scrimlaw18_FlexStands.l0 k x0 x1 x2 x7 x8 (wrap64 (x9 + (rd x34 x36))) x34 x35 (wrap64 (x36 + 1))) else (scrimlaw18_FlexStands.l0 k x0 x1 x2 x7 x8 x9 x34 x35 (wrap64 (x36 + 1))))) else (none)) else (none)) else (if x8 = true then (scrimlaw18_FlexStands.j1 k x0 x1 x2 x7 x9 ((x0.length : Int) == 0)) else (scrimlaw18_FlexStands.j1 k x0 x1 x2 x7 x9 true))
def scrimlaw18_FlexStands.j1 : Nat → List Int → Int → Int → List Int → Int → Bool → Option (Bool)
  | 0, _, _, _, _, _, _ => none
  | k + 1, x0, x1, x2, x7, x9, x54 => if x54 = true then (some true) else (if 0 ≤ (wrap64 ((x7.length : Int) - 1)) then (if (wrap64 ((x7.length : Int) - 1)) < (x7.length : Int) then (if (wrap64 ((x7.length : Int) - 1)) < (x0.length : Int) then (scrimlaw18_FlexStands.l1 k x0 x1 x2 x7 (mx (wrap64 (x1 - x9)) 0) (wrap64 ((x7.length : Int) - 1)) (wrap64 ((rd x7 (wrap64 ((x7.length : Int) - 1))) + (rd x0 (wrap64 ((x7.length : Int) - 1))))) 1) else (none)) else (none)) else (none))
def scrimlaw18_FlexStands.l1 : Nat → List Int → Int → Int → List Int → Int → Int → Int → Int → Option (Bool)
  | 0, _, _, _, _, _, _, _, _ => none
  | k + 1, x0, x1, x2, x7, x12, x13, x14, x15 => if x15 ≤ x13 then (if 0 ≤ x15 then (if x15 < (x7.length : Int) then (if 0 ≤ (wrap64 (x15 - 1)) then (if (wrap64 (x15 - 1)) < (x7.length : Int) then (if (wrap64 (x15 - 1)) < (x0.length : Int) then (if x2 = 3 then (if x13 = 0 then (none) else (if (wrap64 ((wrap64 ((rd x7 x15) - (rd x7 (wrap64 (x15 - 1))))) - (rd x0 (wrap64 (x15 - 1))))) = (wrap64 (Int.tdiv x12 x13)) then (scrimlaw18_FlexStands.l1 k x0 x1 x2 x7 x12 x13 x14 (wrap64 (x15 + 1))) else (some false))) else (if (wrap64 ((wrap64 ((rd x7 x15) - (rd x7 (wrap64 (x15 - 1))))) - (rd x0 (wrap64 (x15 - 1))))) = 0 then (scrimlaw18_FlexStands.l1 k x0 x1 x2 x7 x12 x13 x14 (wrap64 (x15 + 1))) else (some false))) else (none)) else (none)) else (none)) else (none)) else (none)) else (if x2 = 1 then (if 0 < (x7.length : Int) then (if (rd x7 0) = (wrap64 (Int.tdiv x12 2)) then (if x12 = 0 then (some true) else (if x14 ≤ x1 then (some (decide ((wrap64 ((wrap64 (x1 - x14)) - (rd x7 0))) ≤ 1))) else (some false))) else (some false)) else (none)) else (if x2 = 2 then (if 0 < (x7.length : Int) then (if (rd x7 0) = x12 then (if x12 = 0 then (some true) else (some (x14 == x1))) else (some false)) else (none)) else (if 0 < (x7.length : Int) then (if (rd x7 0) = 0 then (if x12 = 0 then (some true) else (some (decide (x14 ≤ x1)))) else (some false)) else (none))))
end
def scrimlaw18_FlexStands.f (k : Nat) (l0 : List Int) (a1 : Int) (a2 : Int) : Option (Bool) := (scrimlaw18_awake.f k).bind fun t415 => (if t415 = true then (if (l0.length : Int) > 120 then (some true) else ((flex_Justify.f k l0 a1 a2).bind fun bt416 => (if (bt416.1.length : Int) = (l0.length : Int) then (scrimlaw18_FlexStands.l0 k l0 a1 a2 bt416.1 bt416.2 0 l0 (l0.length : Int) 0) else (some false)))) else (some false))
theorem scrimlaw18_FlexStands.mono_l : ∀ k, (∀ y0 y1 y2 y3 y4 y5 y6 y7 y8, LeO (scrimlaw18_FlexStands.l0 k y0 y1 y2 y3 y4 y5 y6 y7 y8) (scrimlaw18_FlexStands.l0 (k + 1) y0 y1 y2 y3 y4 y5 y6 y7 y8)) ∧ (∀ y0 y1 y2 y3 y4 y5, LeO (scrimlaw18_FlexStands.j1 k y0 y1 y2 y3 y4 y5) (scrimlaw18_FlexStands.j1 (k + 1) y0 y1 y2 y3 y4 y5)) ∧ (∀ y0 y1 y2 y3 y4 y5 y6 y7, LeO (scrimlaw18_FlexStands.l1 k y0 y1 y2 y3 y4 y5 y6 y7) (scrimlaw18_FlexStands.l1 (k + 1) y0 y1 y2 y3 y4 y5 y6 y7))
  | 0 => ⟨fun _ _ _ _ _ _ _ _ _ r h => by simp [scrimlaw18_FlexStands.l0] at h, fun _ _ _ _ _ _ r h => by simp [scrimlaw18_FlexStands.j1] at h, fun _ _ _ _ _ _ _ _ r h => by simp [scrimlaw18_FlexStands.l1] at h⟩
  | k + 1 => by
    obtain ⟨ih0, ih1, ih2⟩ := scrimlaw18_FlexStands.mono_l k
    refine ⟨?_, ?_, ?_⟩
    · intro y0 y1 y2 y3 y4 y5 y6 y7 y8
      unfold scrimlaw18_FlexStands.l0
      repeat' first
      | (with_reducible exact ih0 _ _ _ _ _ _ _ _ _)
      | (with_reducible exact ih1 _ _ _ _ _ _)
      | (with_reducible exact ih2 _ _ _ _ _ _ _ _)
      | (with_reducible exact flex_Justify.mono _ _ _ _)
      | (with_reducible exact scrimlaw18_awake.mono _)
      | (with_reducible exact LeO.refl _)
      | (with_reducible exact LeO.none _)
      | (with_reducible refine LeO.ite ?_ ?_)
      | (with_reducible refine LeO.bind ?_ (fun _ => ?_))
      | exact ih0 _ _ _ _ _ _ _ _ _
      | exact ih1 _ _ _ _ _ _
      | exact ih2 _ _ _ _ _ _ _ _
      | exact flex_Justify.mono _ _ _ _
      | exact scrimlaw18_awake.mono _
      | exact LeO.none _
      | refine LeO.ite ?_ ?_
      | refine LeO.bind ?_ (fun _ => ?_)
    · intro y0 y1 y2 y3 y4 y5
      unfold scrimlaw18_FlexStands.j1
      repeat' first
      | (with_reducible exact ih0 _ _ _ _ _ _ _ _ _)
      | (with_reducible exact ih1 _ _ _ _ _ _)
      | (with_reducible exact ih2 _ _ _ _ _ _ _ _)
      | (with_reducible exact flex_Justify.mono _ _ _ _)
      | (with_reducible exact scrimlaw18_awake.mono _)
      | (with_reducible exact LeO.refl _)
      | (with_reducible exact LeO.none _)
      | (with_reducible refine LeO.ite ?_ ?_)
      | (with_reducible refine LeO.bind ?_ (fun _ => ?_))
      | exact ih0 _ _ _ _ _ _ _ _ _
      | exact ih1 _ _ _ _ _ _
      | exact ih2 _ _ _ _ _ _ _ _
      | exact flex_Justify.mono _ _ _ _
      | exact scrimlaw18_awake.mono _
      | exact LeO.none _
      | refine LeO.ite ?_ ?_
      | refine LeO.bind ?_ (fun _ => ?_)
    · intro y0 y1 y2 y3 y4 y5 y6 y7
      unfold scrimlaw18_FlexStands.l1
      repeat' first
      | (with_reducible exact ih0 _ _ _ _ _ _ _ _ _)
      | (with_reducible exact ih1 _ _ _ _ _ _)
      | (with_reducible exact ih2 _ _ _ _ _ _ _ _)
      | (with_reducible exact flex_Justify.mono _ _ _ _)
      | (with_reducible exact scrimlaw18_awake.mono _)
      | (with_reducible exact LeO.refl _)
      | (with_reducible exact LeO.none _)
      | (with_reducible refine LeO.ite ?_ ?_)
      | (with_reducible refine LeO.bind ?_ (fun _ => ?_))
      | exact ih0 _ _ _ _ _ _ _ _ _
      | exact ih1 _ _ _ _ _ _
      | exact ih2 _ _ _ _ _ _ _ _
      | exact flex_Justify.mono _ _ _ _
      | exact scrimlaw18_awake.mono _
      | exact LeO.none _
      | refine LeO.ite ?_ ?_
      | refine LeO.bind ?_ (fun _ => ?_)
theorem scrimlaw18_FlexStands.mono : ∀ a0 a1 a2 k, LeO (scrimlaw18_FlexStands.f k a0 a1 a2) (scrimlaw18_FlexStands.f (k + 1) a0 a1 a2) := by
  intro a0 a1 a2 k
  obtain ⟨ih0, ih1, ih2⟩ := scrimlaw18_FlexStands.mono_l k
  unfold scrimlaw18_FlexStands.f
  repeat' first
      | (with_reducible exact ih0 _ _ _ _ _ _ _ _ _)
      | (with_reducible exact ih1 _ _ _ _ _ _)
      | (with_reducible exact ih2 _ _ _ _ _ _ _ _)
      | (with_reducible exact flex_Justify.mono _ _ _ _)
      | (with_reducible exact scrimlaw18_awake.mono _)
      | (with_reducible exact LeO.refl _)
      | (with_reducible exact LeO.none _)
      | (with_reducible refine LeO.ite ?_ ?_)
      | (with_reducible refine LeO.bind ?_ (fun _ => ?_))
      | exact ih0 _ _ _ _ _ _ _ _ _
      | exact ih1 _ _ _ _ _ _
      | exact ih2 _ _ _ _ _ _ _ _
      | exact flex_Justify.mono _ _ _ _
      | exact scrimlaw18_awake.mono _
      | exact LeO.none _
      | refine LeO.ite ?_ ?_
      | refine LeO.bind ?_ (fun _ => ?_)
set_option maxHeartbeats 8000000 in
set_option maxRecDepth 100000 in
theorem scrimlaw18_FlexStands.calls (k : Nat) (A0 : Option Addr) (c0 : Nat) (l0 : List Int) (a1 : Int) (a2 : Int) (r : Bool) (w : World) (hr0 : Kd.C (Kd.int .i64) w A0 l0.length l0) (hc0 : l0.length ≤ c0) (h : scrimlaw18_FlexStands.f k l0 a1 a2 = some r) :
    Calls Try.prog 8 #[.slice A0 l0.length c0, .int .i64 a1, .int .i64 a2] w fun e w' => e = .returned (.bool r) ∧ Below w.heap.size w w' := by
  have HR0 := Aside0.mk hr0
  have HC0 := Aside0.mk hc0
  clear hr0 hc0
  have HB := Aside0.mk (Below.refl w.heap.size w)
  have H : ((scrimlaw18_awake.f k).bind fun t415 => (if t415 = true then (if (l0.length : Int) > 120 then (some true) else ((flex_Justify.f k l0 a1 a2).bind fun bt416 => (if (bt416.1.length : Int) = (l0.length : Int) then (scrimlaw18_FlexStands.l0 k l0 a1 a2 bt416.1 bt416.2 0 l0 (l0.length : Int) 0) else (some false)))) else (some false))) = some r := h
  clear h
  replace H := Option.bind_eq_some_iff.mp H
  obtain ⟨t415, A40, H⟩ := H
  replace H : (if t415 = true then (if (l0.length : Int) > 120 then (some true) else ((flex_Justify.f k l0 a1 a2).bind fun bt416 => (if (bt416.1.length : Int) = (l0.length : Int) then (scrimlaw18_FlexStands.l0 k l0 a1 a2 bt416.1 bt416.2 0 l0 (l0.length : Int) 0) else (some false)))) else (some false)) = some r := H
  have A4 := Aside0.mk A40
  clear A40
  by_cases c5 : t415 = true
  · subst c5
    have H1 : (if (l0.length : Int) > 120 then (some true) else ((flex_Justify.f k l0 a1 a2).bind fun bt416 => (if (bt416.1.length : Int) = (l0.length : Int) then (scrimlaw18_FlexStands.l0 k l0 a1 a2 bt416.1 bt416.2 0 l0 (l0.length : Int) 0) else (some false)))) = some r := by rw [if_pos rfl] at H; exact H
    clear H
    have H := H1
    clear H1
    by_cases c6 : (l0.length : Int) > 120
    · rw [if_pos c6] at H
      have c6b0 : decide (120 < (l0.length : Int)) = true := decide_eq_true c6
      have c6b1 : decide (120 < l0.length) = true := decide_eq_true (by omega)
      clear c6
      obtain rfl := Option.some.inj H
      go_enter Try.func8, Try.ntmps8
      go_wp2_with (first | (go_at_call 14; (with_reducible refine (scrimlaw18_awake.calls k  true _ A4.out).mono ?_); rintro e w7 ⟨rfl, hb⟩; have n0_ := Aside0.mk (below_step (by repeat (first | (with_reducible first | exact HB.out | apply below_alloc | apply pw_below_drewN | apply below_drew1) | exact HB.out)) hb); clear HB; have HB := n0_; clear n0_; (try clear hb); (try clear hb2); (try clear hk); (try clear hi)))
      repeat (go_quiet (first | (go_at_call 14; (with_reducible refine (scrimlaw18_awake.calls k  true _ A4.out).mono ?_); rintro e w7 ⟨rfl, hb⟩; have n0_ := Aside0.mk (below_step (by repeat (first | (with_reducible first | exact HB.out | apply below_alloc | apply pw_below_drewN | apply below_drew1) | exact HB.out)) hb); clear HB; have HB := n0_; clear n0_; (try clear hb); (try clear hb2); (try clear hk); (try clear hi))); try go_wp2_with (first | (go_at_call 14; (with_reducible refine (scrimlaw18_awake.calls k  true _ A4.out).mono ?_); rintro e w7 ⟨rfl, hb⟩; have n0_ := Aside0.mk (below_step (by repeat (first | (with_reducible first | exact HB.out | apply below_alloc | apply pw_below_drewN | apply below_drew1) | exact HB.out)) hb); clear HB; have HB := n0_; clear n0_; (try clear hb); (try clear hb2); (try clear hk); (try clear hi))))
      go_ret
      exact ⟨by first | rfl | (simp [errW_none, errW_some] <;> rfl) | (simp [*, errW_none, errW_some] <;> rfl), by repeat (first | (with_reducible first | exact HB.out | apply below_alloc | apply pw_below_drewN | apply below_drew1) | exact HB.out)⟩
    · rw [if_neg c6] at H
      have c6b0 : decide (120 < (l0.length : Int)) = false := decide_eq_false c6
      have c6b1 : decide (120 < l0.length) = false := decide_eq_false (by omega)
      clear c6
      replace H := Option.bind_eq_some_iff.mp H
      obtain ⟨⟨t416, t417⟩, A80, H⟩ := H
      replace H : (if (t416.length : Int) = (l0.length : Int) then (scrimlaw18_FlexStands.l0 k l0 a1 a2 t416 t417 0 l0 (l0.length : Int) 0) else (some false)) = some r := H
      have A8 := Aside0.mk A80
      clear A80
      by_cases c9 : (t416.length : Int) = (l0.length : Int)
      · rw [if_pos c9] at H
        have c9b0 : ((t416.length : Int) == (l0.length : Int)) = true := beq_iff_eq.mpr c9
        have c9b1 : ((t416.length : Int) != (l0.length : Int)) = false := bne_eq_false_iff_eq.mpr c9
        have c9b2 : (t416.length == l0.length) = true := by first | simpa using c9 | (simp at c9 ⊢; omega)
        clear c9
        have H' := Aside0.mk H
        clear H
        go_enter Try.func8, Try.ntmps8
        go_wp2_with (first | (go_at_call 14; (with_reducible refine (scrimlaw18_awake.calls k  true _ A4.out).mono ?_); rintro e w10 ⟨rfl, hb⟩; have n0_ := Aside0.mk (below_step (by repeat (first | (with_reducible first | exact HB.out | apply below_alloc | apply pw_below_drewN | apply below_drew1) | exact HB.out)) hb); clear HB; have HB := n0_; clear n0_; (try clear hb); (try clear hb2); (try clear hk); (try clear hi)) | (go_at_call 18; (with_reducible refine (flex_Justify.calls k _ _ l0 a1 a2 t416 t417 _ ?side1 ?side2 A8.out).mono ?_); (case side1 => repeat (first | exact (Kd.C_below HR0.out HB.out) | (with_reducible refine Kd.C_alloc ?_ _) | (with_reducible refine Kd.C_drewN ?_ _) | (with_reducible refine Kd.C_drew ?_))); (case side2 => exact HC0.out); rintro e w11 ⟨v418, rfl, ho0, hb⟩; have n0_ := Aside0.mk (Kd.R_lower ho0 (below_size (by repeat (first | (with_reducible first | exact HB.out | apply below_alloc | apply pw_below_drewN | apply below_drew1) | exact HB.out)))); have n1_ := Aside0.mk (below_step (by repeat (first | (with_reducible first | exact HB.out | apply below_alloc | apply pw_below_drewN | apply below_drew1) | exact HB.out)) hb); clear HB; have HO419 := n0_; have HB := n1_; clear n0_ n1_; (try clear hb); (try clear hb2); (try clear hk); (try clear hi); (try clear ho0); obtain ⟨Ao12, co12, eo12⟩ := Kd.R_slice HO419.out; subst eo12))
        repeat (go_quiet (first | (go_at_call 14; (with_reducible refine (scrimlaw18_awake.calls k  true _ A4.out).mono ?_); rintro e w10 ⟨rfl, hb⟩; have n0_ := Aside0.mk (below_step (by repeat (first | (with_reducible first | exact HB.out | apply below_alloc | apply pw_below_drewN | apply below_drew1) | exact HB.out)) hb); clear HB; have HB := n0_; clear n0_; (try clear hb); (try clear hb2); (try clear hk); (try clear hi)) | (go_at_call 18; (with_reducible refine (flex_Justify.calls k _ _ l0 a1 a2 t416 t417 _ ?side1 ?side2 A8.out).mono ?_); (case side1 => repeat (first | exact (Kd.C_below HR0.out HB.out) | (with_reducible refine Kd.C_alloc ?_ _) | (with_reducible refine Kd.C_drewN ?_ _) | (with_reducible refine Kd.C_drew ?_))); (case side2 => exact HC0.out); rintro e w11 ⟨v418, rfl, ho0, hb⟩; have n0_ := Aside0.mk (Kd.R_lower ho0 (below_size (by repeat (first | (with_reducible first | exact HB.out | apply below_alloc | apply pw_below_drewN | apply below_drew1) | exact HB.out)))); have n1_ := Aside0.mk (below_step (by repeat (first | (with_reducible first | exact HB.out | apply below_alloc | apply pw_below_drewN | apply below_drew1) | exact HB.out)) hb); clear HB; have HO419 := n0_; have HB := n1_; clear n0_ n1_; (try clear hb); (try clear hb2); (try clear hk); (try clear hi); (try clear ho0); obtain ⟨Ao12, co12, eo12⟩ := Kd.R_slice HO419.out; subst eo12)); try go_wp2_with (first | (go_at_call 14; (with_reducible refine (scrimlaw18_awake.calls k  true _ A4.out).mono ?_); rintro e w10 ⟨rfl, hb⟩; have n0_ := Aside0.mk (below_step (by repeat (first | (with_reducible first | exact HB.out | apply below_alloc | apply pw_below_drewN | apply below_drew1) | exact HB.out)) hb); clear HB; have HB := n0_; clear n0_; (try clear hb); (try clear hb2); (try clear hk); (try clear hi)) | (go_at_call 18; (with_reducible refine (flex_Justify.calls k _ _ l0 a1 a2 t416 t417 _ ?side1 ?side2 A8.out).mono ?_); (case side1 => repeat (first | exact (Kd.C_below HR0.out HB.out) | (with_reducible refine Kd.C_alloc ?_ _) | (with_reducible refine Kd.C_drewN ?_ _) | (with_reducible refine Kd.C_drew ?_))); (case side2 => exact HC0.out); rintro e w11 ⟨v418, rfl, ho0, hb⟩; have n0_ := Aside0.mk (Kd.R_lower ho0 (below_size (by repeat (first | (with_reducible first | exact HB.out | apply below_alloc | apply pw_below_drewN | apply below_drew1) | exact HB.out)))); have n1_ := Aside0.mk (below_step (by repeat (first | (with_reducible first | exact HB.out | apply below_alloc | apply pw_below_drewN | apply below_drew1) | exact HB.out)) hb); clear HB; have HO419 := n0_; have HB := n1_; clear n0_ n1_; (try clear hb); (try clear hb2); (try clear hk); (try clear hi); (try clear ho0); obtain ⟨Ao12, co12, eo12⟩ := Kd.R_slice HO419.out; subst eo12)))
        go_loopg [9, 36] k (fun kq v9 v36 w' => ∃ (x9_1 : Int) (x36_1 : Int), v9 = .int .i64 x9_1 ∧ v36 = .int .i64 x36_1 ∧ Aside0 (scrimlaw18_FlexStands.l0 kq l0 a1 a2 t416 t417 x9_1 l0 (l0.length : Int) x36_1 = some r) ∧ Aside0 (kq ≤ k) ∧ Aside0 (Kd.R (Kd.int .i64) 2 w' w.heap.size (fun _ => True) (.slice Ao12 t416.length co12) t416) ∧ Aside0 (Below w.heap.size w w'))
        case atStart => exact ⟨(0), (0), (by first | rfl | (simp; done) | (simp [*]; done)), (by first | rfl | (simp; done) | (simp [*]; done)), H', ⟨Nat.le_refl _⟩, ⟨by (with_reducible repeat (first | apply Kd.R_alloc | apply Kd.R_drewN | apply Kd.R_drew)); exact HO419.out⟩, ⟨by repeat (first | (with_reducible first | exact HB.out | apply below_alloc | apply pw_below_drewN | apply below_drew1) | exact HB.out)⟩⟩
        case round =>
          clear H'
          try clear p2
          try clear c5
          try clear c6
          try clear c6b0
          try clear c6b1
          try clear c8
          try clear c9
          try clear c9b0
          try clear c9b1
          try clear c9b2
          obtain ⟨x9_1, x36_1, rfl, rfl, HA, HK1, HO_7, HB⟩ := hrel
          cases gk with
          | zero => exact absurd HA.out (by simp [scrimlaw18_FlexStands.l0])
          | succ k1 =>
            have H := HA.out
            clear HA
            simp only [scrimlaw18_FlexStands.l0] at H
            by_cases c13 : x36_1 < (l0.length : Int)
            · rw [if_pos c13] at H
              have c13b0 : decide (x36_1 < (l0.length : Int)) = true := decide_eq_true c13
              clear c13
              by_cases c14 : 0 ≤ x36_1
              · rw [if_pos c14] at H
                have c14b0 : decide (0 ≤ x36_1) = true := decide_eq_true c14
                clear c14
                by_cases c15 : x36_1 < (l0.length : Int)
                · rw [if_pos c15] at H
                  have c15b0 : decide (x36_1 < (l0.length : Int)) = true := decide_eq_true c15
                  clear c15
                  by_cases c16 : (rd l0 x36_1) < 0
                  · rw [if_pos c16] at H
                    have c16b0 : decide ((rd l0 x36_1) < 0) = true := decide_eq_true c16
                    clear c16
                    obtain rfl := Option.some.inj H
                    have p420 : 0 ≤ (x36_1 : Int) := of_decide_eq_true (by first | (with_reducible assumption) | assumption)
                    have q420 : x36_1 < (l0.length : Int) := of_decide_eq_true (by first | (with_reducible assumption) | assumption)
                    obtain ⟨ad420, e420, hx420_0⟩ := Kd.at_int HR0.out x36_1 p420 q420
                    cases e420
                    replace hx420_0 := (HB.out.cell (World.block_lt_of_cell? w _ hx420_0)).trans hx420_0
                    replace p420 := eq_true p420
                    replace q420 := eq_true q420
                    go_wp2
                    repeat (go_quiet (fail); try go_wp2)
                    go_ret
                    exact ⟨by first | rfl | (simp [errW_none, errW_some] <;> rfl) | (simp [*, errW_none, errW_some] <;> rfl), by repeat (first | (with_reducible first | exact HB.out | apply below_alloc | apply pw_below_drewN | apply below_drew1) | exact HB.out)⟩
                  · rw [if_neg c16] at H
                    have c16b0 : decide ((rd l0 x36_1) < 0) = false := decide_eq_false c16
                    clear c16
                    by_cases c17 : (rd l0 x36_1) ≤ 1099511627776
                    · rw [if_pos c17] at H
                      have c17b0 : decide ((rd l0 x36_1) ≤ 1099511627776) = true := decide_eq_true c17
                      clear c17
                      have H' := Aside0.mk H
                      clear H
                      have p420 : 0 ≤ (x36_1 : Int) := of_decide_eq_true (by first | (with_reducible assumption) | assumption)
                      have q420 : x36_1 < (l0.length : Int) := of_decide_eq_true (by first | (with_reducible assumption) | assumption)
                      obtain ⟨ad420, e420, hx420_0⟩ := Kd.at_int HR0.out x36_1 p420 q420
                      cases e420
                      replace hx420_0 := (HB.out.cell (World.block_lt_of_cell? w _ hx420_0)).trans hx420_0
                      replace p420 := eq_true p420
                      replace q420 := eq_true q420
                      go_wp2
                      repeat (go_quiet (fail); try go_wp2)
                      go_roundg k1
                      case measure => have := HK1.out; omega
                      case rel => exact ⟨(wrap64 (x9_1 + (rd l0 x36_1))), (wrap64 (x36_1 + 1)), (by first | rfl | (simp; done) | (simp [*]; done)), (by first | rfl | (simp; done) | (simp [*]; done)), H', ⟨by have := HK1.out; omega⟩, ⟨by (with_reducible repeat (first | apply Kd.R_alloc | apply Kd.R_drewN | apply Kd.R_drew)); exact HO_7.out⟩, ⟨by repeat (first | (with_reducible first | exact HB.out | apply below_alloc | apply pw_below_drewN | apply below_drew1) | exact HB.out)⟩⟩
                    · rw [if_neg c17] at H
                      have c17b0 : decide ((rd l0 x36_1) ≤ 1099511627776) = false := decide_eq_false c17
                      clear c17
                      have H' := Aside0.mk H
                      clear H
                      have p420 : 0 ≤ (x36_1 : Int) := of_decide_eq_true (by first | (with_reducible assumption) | assumption)
                      have q420 : x36_1 < (l0.length : Int) := of_decide_eq_true (by first | (with_reducible assumption) | assumption)
                      obtain ⟨ad420, e420, hx420_0⟩ := Kd.at_int HR0.out x36_1 p420 q420
                      cases e420
                      replace hx420_0 := (HB.out.cell (World.block_lt_of_cell? w _ hx420_0)).trans hx420_0
                      replace p420 := eq_true p420
                      replace q420 := eq_true q420
                      go_wp2
                      repeat (go_quiet (fail); try go_wp2)
                      go_roundg k1
                      case measure => have := HK1.out; omega
                      case rel => exact ⟨(x9_1), (wrap64 (x36_1 + 1)), (by first | rfl | (simp; done) | (simp [*]; done)), (by first | rfl | (simp; done) | (simp [*]; done)), H', ⟨by have := HK1.out; omega⟩, ⟨by (with_reducible repeat (first | apply Kd.R_alloc | apply Kd.R_drewN | apply Kd.R_drew)); exact HO_7.out⟩, ⟨by repeat (first | (with_reducible first | exact HB.out | apply below_alloc | apply pw_below_drewN | apply below_drew1) | exact HB.out)⟩⟩
                · rw [if_neg c15] at H
                  exact absurd H (by simp)
              · rw [if_neg c14] at H
                exact absurd H (by simp)
            · rw [if_neg c13] at H
              have c13b0 : decide (x36_1 < (l0.length : Int)) = false := decide_eq_false c13
              clear c13
              have HC18 := Aside0.mk H
              clear H
              go_upto_region 17 with (fail)
              repeat (go_quiet (fail); go_upto_region 17 with (fail))
              go_cut [54] (fun v54 wc => ∃ (kq : Nat) (x54_17 : Bool), v54 = .bool x54_17 ∧ Aside0 (scrimlaw18_FlexStands.j1 kq l0 a1 a2 t416 x9_1 x54_17 = some r) ∧ Aside0 (kq ≤ k1) ∧ Aside0 (Kd.R (Kd.int .i64) 2 wc w.heap.size (fun _ => True) (.slice Ao12 t416.length co12) t416) ∧ Aside0 (Below w.heap.size w wc))
              case first =>
                have H := HC18.out
                clear HC18
                by_cases c19 : t417 = true
                · subst c19
                  have H1 : (scrimlaw18_FlexStands.j1 k1 l0 a1 a2 t416 x9_1 ((l0.length : Int) == 0)) = some r := by rw [if_pos rfl] at H; exact H
                  clear H
                  have H := H1
                  clear H1
                  have H' := Aside0.mk H
                  clear H
                  go_wp2
                  repeat (go_quiet (fail); try go_wp2)
                  go_meet
                  case rel => exact ⟨_, (((l0.length : Int) == 0)), (by first | rfl | (simp; done) | (simp [*]; done)), H', ⟨by have := HK1.out; first | omega | exact Nat.le_refl _⟩, ⟨by (with_reducible repeat (first | apply Kd.R_alloc | apply Kd.R_drewN | apply Kd.R_drew)); exact HO_7.out⟩, ⟨by repeat (first | (with_reducible first | exact HB.out | apply below_alloc | apply pw_below_drewN | apply below_drew1) | exact HB.out)⟩⟩
                · replace c19 := Bool.eq_false_iff.mpr c19
                  subst c19
                  have H1 : (scrimlaw18_FlexStands.j1 k1 l0 a1 a2 t416 x9_1 true) = some r := by rw [if_neg (show ¬ (false = true) by decide)] at H; exact H
                  clear H
                  have H := H1
                  clear H1
                  have H' := Aside0.mk H
                  clear H
                  go_wp2
                  repeat (go_quiet (fail); try go_wp2)
                  go_meet
                  case rel => exact ⟨_, (true), (by first | rfl | (simp; done) | (simp [*]; done)), H', ⟨by have := HK1.out; first | omega | exact Nat.le_refl _⟩, ⟨by (with_reducible repeat (first | apply Kd.R_alloc | apply Kd.R_drewN | apply Kd.R_drew)); exact HO_7.out⟩, ⟨by repeat (first | (with_reducible first | exact HB.out | apply below_alloc | apply pw_below_drewN | apply below_drew1) | exact HB.out)⟩⟩
              case rest =>
                clear HC18
                try clear c1
                try clear p2
                try clear p4
                try clear q4
                try clear hx4
                try clear c5
                try clear c6
                try clear c6b0
                try clear c6b1
                try clear p6
                try clear c8
                try clear c9
                try clear c9b0
                try clear c9b1
                try clear c9b2
                try clear c13
                try clear c13b0
                try clear c14
                try clear c14b0
                try clear c15
                try clear c15b0
                try clear c16
                try clear c16b0
                try clear c17
                try clear c17b0
                try clear c19
                try clear hx420_0
                try clear p2
                try clear p420
                try clear q420
                obtain ⟨kq, x54_17, rfl, HA, HJ17, HO_7, HB⟩ := hcut
                cases kq with
                | zero => exact absurd HA.out (by simp [scrimlaw18_FlexStands.j1])
                | succ kj17 =>
                  have H := HA.out
                  clear HA
                  simp only [scrimlaw18_FlexStands.j1] at H
                  by_cases c20 : x54_17 = true
                  · subst c20
                    have H1 : (some true) = some r := by rw [if_pos rfl] at H; exact H
                    clear H
                    have H := H1
                    clear H1
                    obtain rfl := Option.some.inj H
                    go_wp2
                    repeat (go_quiet (fail); try go_wp2)
                    go_ret
                    exact ⟨by first | rfl | (simp [errW_none, errW_some] <;> rfl) | (simp [*, errW_none, errW_some] <;> rfl), by repeat (first | (with_reducible first | exact HB.out | apply below_alloc | apply pw_below_drewN | apply below_drew1) | exact HB.out)⟩
                  · replace c20 := Bool.eq_false_iff.mpr c20
                    subst c20
                    have H1 : (if 0 ≤ (wrap64 ((t416.length : Int) - 1)) then (if (wrap64 ((t416.length : Int) - 1)) < (t416.length : Int) then (if (wrap64 ((t416.length : Int) - 1)) < (l0.length : Int) then (scrimlaw18_FlexStands.l1 kj17 l0 a1 a2 t416 (mx (wrap64 (a1 - x9_1)) 0) (wrap64 ((t416.length : Int) - 1)) (wrap64 ((rd t416 (wrap64 ((t416.length : Int) - 1))) + (rd l0 (wrap64 ((t416.length : Int) - 1))))) 1) else (none)) else (none)) else (none)) = some r := by rw [if_neg (show ¬ (false = true) by decide)] at H; exact H
                    clear H
                    have H := H1
                    clear H1
                    obtain ⟨ji21, hji21⟩ : ∃ j_ : Int, (mx (wrap64 (a1 - x9_1)) 0) = j_ := ⟨_, rfl⟩
                    replace H : (if 0 ≤ (wrap64 ((t416.length : Int) - 1)) then (if (wrap64 ((t416.length : Int) - 1)) < (t416.length : Int) then (if (wrap64 ((t416.length : Int) - 1)) < (l0.length : Int) then (scrimlaw18_FlexStands.l1 kj17 l0 a1 a2 t416 ji21 (wrap64 ((t416.length : Int) - 1)) (wrap64 ((rd t416 (wrap64 ((t416.length : Int) - 1))) + (rd l0 (wrap64 ((t416.length : Int) - 1))))) 1) else (none)) else (none)) else (none)) = some r := by first | (rw [hji21] at H; exact H) | (simp only [hji21] at H ⊢; exact H)
                    have hji21_ : (if (wrap64 (a1 - x9_1)) < 0 then 0 else (wrap64 (a1 - x9_1))) = ji21 := hji21
                    obtain ⟨ji22, hji22⟩ : ∃ j_ : Int, (wrap64 ((t416.length : Int) - 1)) = j_ := ⟨_, rfl⟩
                    replace H : (if 0 ≤ (ji22) then (if (ji22) < (t416.length : Int) then (if (ji22) < (l0.length : Int) then (scrimlaw18_FlexStands.l1 kj17 l0 a1 a2 t416 ji21 ji22 (wrap64 ((rd t416 (ji22)) + (rd l0 (ji22)))) 1) else (none)) else (none)) else (none)) = some r := by first | (rw [hji22] at H; exact H) | (simp only [hji22] at H ⊢; exact H)
                    have hji22w : (IntKind.i64.wrap ((t416.length : Int) - 1)) = ji22 := (i64_w _).trans hji22
                    by_cases c23 : 0 ≤ (ji22)
                    · rw [if_pos c23] at H
                      have c23b0 : decide (0 ≤ (ji22)) = true := decide_eq_true c23
                      clear c23
                      by_cases c24 : (ji22) < (t416.length : Int)
                      · rw [if_pos c24] at H
                        have c24b0 : decide ((ji22) < (t416.length : Int)) = true := decide_eq_true c24
                        clear c24
                        by_cases c25 : (ji22) < (l0.length : Int)
                        · rw [if_pos c25] at H
                          have c25b0 : decide ((ji22) < (l0.length : Int)) = true := decide_eq_true c25
                          clear c25
                          have H' := Aside0.mk H
                          clear H
                          have p421 : 0 ≤ ((ji22) : Int) := of_decide_eq_true (by first | (with_reducible assumption) | assumption)
                          have q421 : (ji22) < (t416.length : Int) := of_decide_eq_true (by first | (with_reducible assumption) | assumption)
                          obtain ⟨ad421, e421, hx421_0⟩ := Kd.at_int (Kd.R_reads' HO_7.out).2.2 (ji22) p421 q421
                          cases e421
                          replace p421 := eq_true p421
                          replace q421 := eq_true q421
                          have p422 : 0 ≤ ((ji22) : Int) := of_decide_eq_true (by first | (with_reducible assumption) | assumption)
                          have q422 : (ji22) < (l0.length : Int) := of_decide_eq_true (by first | (with_reducible assumption) | assumption)
                          obtain ⟨ad422, e422, hx422_0⟩ := Kd.at_int HR0.out (ji22) p422 q422
                          cases e422
                          replace hx422_0 := (HB.out.cell (World.block_lt_of_cell? w _ hx422_0)).trans hx422_0
                          replace p422 := eq_true p422
                          replace q422 := eq_true q422
                          go_wp2
                          repeat (go_quiet (fail); try go_wp2)
                          go_loopg [15] kj17 (fun kq v15 w' => ∃ (x15_3 : Int), v15 = .int .i64 x15_3 ∧ Aside0 (scrimlaw18_FlexStands.l1 kq l0 a1 a2 t416 ji21 ji22 (wrap64 ((rd t416 (ji22)) + (rd l0 (ji22)))) x15_3 = some r) ∧ Aside0 (kq ≤ kj17) ∧ Aside0 (Kd.R (Kd.int .i64) 2 w' w.heap.size (fun _ => True) (.slice (some ad421) t416.length co12) t416) ∧ Aside0 (Below w.heap.size w w'))
                          case atStart => exact ⟨(1), (by first | rfl | (simp; done) | (simp [*]; done)), H', ⟨Nat.le_refl _⟩, ⟨by (with_reducible repeat (first | apply Kd.R_alloc | apply Kd.R_drewN | apply Kd.R_drew)); exact HO_7.out⟩, ⟨by repeat (first | (with_reducible first | exact HB.out | apply below_alloc | apply pw_below_drewN | apply below_drew1) | exact HB.out)⟩⟩
                          case round =>
                            clear H'
                            try clear c1
                            try clear c2
                            try clear p2
                            try clear p4
                            try clear q4
                            try clear hx4
                            try clear c5
                            try clear c6
                            try clear c6b0
                            try clear c6b1
                            try clear p6
                            try clear c8
                            try clear c9
                            try clear c9b0
                            try clear c9b1
                            try clear c9b2
                            try clear c13
                            try clear c13b0
                            try clear c14
                            try clear c14b0
                            try clear c15
                            try clear c15b0
                            try clear c16
                            try clear c16b0
                            try clear c17
                            try clear c17b0
                            try clear c19
                            try clear c20
                            try clear c23
                            try clear c23b0
                            try clear c24
                            try clear c24b0
                            try clear c25
                            try clear c25b0
                            try clear hx420_0
                            try clear hx421_0
                            try clear hx422_0
                            try clear p2
                            try clear p4
                            try clear p420
                            try clear p421
                            try clear p422
                            try clear p6
                            try clear q4
                            try clear q420
                            try clear q421
                            try clear q422
                            obtain ⟨x15_3, rfl, HA, HK3, HO_7, HB⟩ := hrel
                            cases gk with
                            | zero => exact absurd HA.out (by simp [scrimlaw18_FlexStands.l1])
                            | succ k3 =>
                              have H := HA.out
                              clear HA
                              simp only [scrimlaw18_FlexStands.l1] at H
                              by_cases c26 : x15_3 ≤ ji22
                              · rw [if_pos c26] at H
                                have c26b0 : decide (x15_3 ≤ ji22) = true := decide_eq_true c26
                                clear c26
                                by_cases c27 : 0 ≤ x15_3
                                · rw [if_pos c27] at H
                                  have c27b0 : decide (0 ≤ x15_3) = true := decide_eq_true c27
                                  clear c27
                                  by_cases c28 : x15_3 < (t416.length : Int)
                                  · rw [if_pos c28] at H
                                    have c28b0 : decide (x15_3 < (t416.length : Int)) = true := decide_eq_true c28
                                    clear c28
                                    obtain ⟨ji29, hji29⟩ : ∃ j_ : Int, (wrap64 (x15_3 - 1)) = j_ := ⟨_, rfl⟩
                                    replace H : (if 0 ≤ (ji29) then (if (ji29) < (t416.length : Int) then (if (ji29) < (l0.length : Int) then (if a2 = 3 then (if ji22 = 0 then (none) else (if (wrap64 ((wrap64 ((rd t416 x15_3) - (rd t416 (ji29)))) - (rd l0 (ji29)))) = (wrap64 (Int.tdiv ji21 ji22)) then (scrimlaw18_FlexStands.l1 k3 l0 a1 a2 t416 ji21 ji22 (wrap64 ((rd t416 (ji22)) + (rd l0 (ji22)))) (wrap64 (x15_3 + 1))) else (some false))) else (if (wrap64 ((wrap64 ((rd t416 x15_3) - (rd t416 (ji29)))) - (rd l0 (ji29)))) = 0 then (scrimlaw18_FlexStands.l1 k3 l0 a1 a2 t416 ji21 ji22 (wrap64 ((rd t416 (ji22)) + (rd l0 (ji22)))) (wrap64 (x15_3 + 1))) else (some false))) else (none)) else (none)) else (none)) = some r := by first | (rw [hji29] at H; exact H) | (simp only [hji29] at H ⊢; exact H)
                                    have hji29w : (IntKind.i64.wrap (x15_3 - 1)) = ji29 := (i64_w _).trans hji29
                                    by_cases c30 : 0 ≤ (ji29)
                                    · rw [if_pos c30] at H
                                      have c30b0 : decide (0 ≤ (ji29)) = true := decide_eq_true c30
                                      clear c30
                                      by_cases c31 : (ji29) < (t416.length : Int)
                                      · rw [if_pos c31] at H
                                        have c31b0 : decide ((ji29) < (t416.length : Int)) = true := decide_eq_true c31
                                        clear c31
                                        by_cases c32 : (ji29) < (l0.length : Int)
                                        · rw [if_pos c32] at H
                                          have c32b0 : decide ((ji29) < (l0.length : Int)) = true := decide_eq_true c32
                                          clear c32
                                          by_cases c33 : a2 = 3
                                          · rw [if_pos c33] at H
                                            have c33b0 : (a2 == 3) = true := beq_iff_eq.mpr c33
                                            have c33b1 : (a2 != 3) = false := bne_eq_false_iff_eq.mpr c33
                                            clear c33
                                            by_cases c34 : ji22 = 0
                                            · rw [if_pos c34] at H
                                              exact absurd H (by simp)
                                            · rw [if_neg c34] at H
                                              have c34b0 : (ji22 == 0) = false := beq_eq_false_iff_ne.mpr c34
                                              have c34b1 : (ji22 != 0) = true := bne_iff_ne.mpr c34
                                              by_cases c35 : (wrap64 ((wrap64 ((rd t416 x15_3) - (rd t416 (ji29)))) - (rd l0 (ji29)))) = (wrap64 (Int.tdiv ji21 ji22))
                                              · rw [if_pos c35] at H
                                                have c35b0 : ((wrap64 ((wrap64 ((rd t416 x15_3) - (rd t416 (ji29)))) - (rd l0 (ji29)))) == (wrap64 (Int.tdiv ji21 ji22))) = true := beq_iff_eq.mpr c35
                                                have c35b1 : ((wrap64 ((wrap64 ((rd t416 x15_3) - (rd t416 (ji29)))) - (rd l0 (ji29)))) != (wrap64 (Int.tdiv ji21 ji22))) = false := bne_eq_false_iff_eq.mpr c35
                                                clear c35
                                                have H' := Aside0.mk H
                                                clear H
                                                have p423 : 0 ≤ (x15_3 : Int) := of_decide_eq_true (by first | (with_reducible assumption) | assumption)
                                                have q423 : x15_3 < (t416.length : Int) := of_decide_eq_true (by first | (with_reducible assumption) | assumption)
                                                obtain ⟨ad423, e423, hx423_0⟩ := Kd.at_int (Kd.R_reads' HO_7.out).2.2 x15_3 p423 q423
                                                obtain rfl : ad421 = ad423 := (by injection e423)
                                                replace p423 := eq_true p423
                                                replace q423 := eq_true q423
                                                have p424 : 0 ≤ ((ji29) : Int) := of_decide_eq_true (by first | (with_reducible assumption) | assumption)
                                                have q424 : (ji29) < (t416.length : Int) := of_decide_eq_true (by first | (with_reducible assumption) | assumption)
                                                obtain ⟨ad424, e424, hx424_0⟩ := Kd.at_int (Kd.R_reads' HO_7.out).2.2 (ji29) p424 q424
                                                obtain rfl : ad421 = ad424 := (by injection e424)
                                                replace p424 := eq_true p424
                                                replace q424 := eq_true q424
                                                have p425 : 0 ≤ ((ji29) : Int) := of_decide_eq_true (by first | (with_reducible assumption) | assumption)
                                                have q425 : (ji29) < (l0.length : Int) := of_decide_eq_true (by first | (with_reducible assumption) | assumption)
                                                obtain ⟨ad425, e425, hx425_0⟩ := Kd.at_int HR0.out (ji29) p425 q425
                                                obtain rfl : ad422 = ad425 := (by injection e425)
                                                replace hx425_0 := (HB.out.cell (World.block_lt_of_cell? w _ hx425_0)).trans hx425_0
                                                replace p425 := eq_true p425
                                                replace q425 := eq_true q425
                                                go_wp2
                                                repeat (go_quiet (fail); try go_wp2)
                                                go_roundg k3
                                                case measure => have := HK1.out; have := HJ17.out; have := HK3.out; omega
                                                case rel => exact ⟨(wrap64 (x15_3 + 1)), (by first | rfl | (simp; done) | (simp [*]; done)), H', ⟨by have := HK1.out; have := HJ17.out; have := HK3.out; omega⟩, ⟨by (with_reducible repeat (first | apply Kd.R_alloc | apply Kd.R_drewN | apply Kd.R_drew)); exact HO_7.out⟩, ⟨by repeat (first | (with_reducible first | exact HB.out | apply below_alloc | apply pw_below_drewN | apply below_drew1) | exact HB.out)⟩⟩
                                              · rw [if_neg c35] at H
                                                have c35b0 : ((wrap64 ((wrap64 ((rd t416 x15_3) - (rd t416 (ji29)))) - (rd l0 (ji29)))) == (wrap64 (Int.tdiv ji21 ji22))) = false := beq_eq_false_iff_ne.mpr c35
                                                have c35b1 : ((wrap64 ((wrap64 ((rd t416 x15_3) - (rd t416 (ji29)))) - (rd l0 (ji29)))) != (wrap64 (Int.tdiv ji21 ji22))) = true := bne_iff_ne.mpr c35
                                                obtain rfl := Option.some.inj H
                                                have p423 : 0 ≤ (x15_3 : Int) := of_decide_eq_true (by first | (with_reducible assumption) | assumption)
                                                have q423 : x15_3 < (t416.length : Int) := of_decide_eq_true (by first | (with_reducible assumption) | assumption)
                                                obtain ⟨ad423, e423, hx423_0⟩ := Kd.at_int (Kd.R_reads' HO_7.out).2.2 x15_3 p423 q423
                                                obtain rfl : ad421 = ad423 := (by injection e423)
                                                replace p423 := eq_true p423
                                                replace q423 := eq_true q423
                                                have p424 : 0 ≤ ((ji29) : Int) := of_decide_eq_true (by first | (with_reducible assumption) | assumption)
                                                have q424 : (ji29) < (t416.length : Int) := of_decide_eq_true (by first | (with_reducible assumption) | assumption)
                                                obtain ⟨ad424, e424, hx424_0⟩ := Kd.at_int (Kd.R_reads' HO_7.out).2.2 (ji29) p424 q424
                                                obtain rfl : ad421 = ad424 := (by injection e424)
                                                replace p424 := eq_true p424
                                                replace q424 := eq_true q424
                                                have p425 : 0 ≤ ((ji29) : Int) := of_decide_eq_true (by first | (with_reducible assumption) | assumption)
                                                have q425 : (ji29) < (l0.length : Int) := of_decide_eq_true (by first | (with_reducible assumption) | assumption)
                                                obtain ⟨ad425, e425, hx425_0⟩ := Kd.at_int HR0.out (ji29) p425 q425
                                                obtain rfl : ad422 = ad425 := (by injection e425)
                                                replace hx425_0 := (HB.out.cell (World.block_lt_of_cell? w _ hx425_0)).trans hx425_0
                                                replace p425 := eq_true p425
                                                replace q425 := eq_true q425
                                                go_wp2
                                                repeat (go_quiet (fail); try go_wp2)
                                                go_ret
                                                exact ⟨by first | rfl | (simp [errW_none, errW_some] <;> rfl) | (simp only [← hji21, ← hji22, ← hji29]; first | rfl | (simp [errW_none, errW_some] <;> rfl)) | (simp [*, errW_none, errW_some] <;> rfl), by repeat (first | (with_reducible first | exact HB.out | apply below_alloc | apply pw_below_drewN | apply below_drew1) | exact HB.out)⟩
                                          · rw [if_neg c33] at H
                                            have c33b0 : (a2 == 3) = false := beq_eq_false_iff_ne.mpr c33
                                            have c33b1 : (a2 != 3) = true := bne_iff_ne.mpr c33
                                            by_cases c36 : (wrap64 ((wrap64 ((rd t416 x15_3) - (rd t416 (ji29)))) - (rd l0 (ji29)))) = 0
                                            · rw [if_pos c36] at H
                                              have c36b0 : ((wrap64 ((wrap64 ((rd t416 x15_3) - (rd t416 (ji29)))) - (rd l0 (ji29)))) == 0) = true := beq_iff_eq.mpr c36
                                              have c36b1 : ((wrap64 ((wrap64 ((rd t416 x15_3) - (rd t416 (ji29)))) - (rd l0 (ji29)))) != 0) = false := bne_eq_false_iff_eq.mpr c36
                                              clear c36
                                              have H' := Aside0.mk H
                                              clear H
                                              have p423 : 0 ≤ (x15_3 : Int) := of_decide_eq_true (by first | (with_reducible assumption) | assumption)
                                              have q423 : x15_3 < (t416.length : Int) := of_decide_eq_true (by first | (with_reducible assumption) | assumption)
                                              obtain ⟨ad423, e423, hx423_0⟩ := Kd.at_int (Kd.R_reads' HO_7.out).2.2 x15_3 p423 q423
                                              obtain rfl : ad421 = ad423 := (by injection e423)
                                              replace p423 := eq_true p423
                                              replace q423 := eq_true q423
                                              have p424 : 0 ≤ ((ji29) : Int) := of_decide_eq_true (by first | (with_reducible assumption) | assumption)
                                              have q424 : (ji29) < (t416.length : Int) := of_decide_eq_true (by first | (with_reducible assumption) | assumption)
                                              obtain ⟨ad424, e424, hx424_0⟩ := Kd.at_int (Kd.R_reads' HO_7.out).2.2 (ji29) p424 q424
                                              obtain rfl : ad421 = ad424 := (by injection e424)
                                              replace p424 := eq_true p424
                                              replace q424 := eq_true q424
                                              have p425 : 0 ≤ ((ji29) : Int) := of_decide_eq_true (by first | (with_reducible assumption) | assumption)
                                              have q425 : (ji29) < (l0.length : Int) := of_decide_eq_true (by first | (with_reducible assumption) | assumption)
                                              obtain ⟨ad425, e425, hx425_0⟩ := Kd.at_int HR0.out (ji29) p425 q425
                                              obtain rfl : ad422 = ad425 := (by injection e425)
                                              replace hx425_0 := (HB.out.cell (World.block_lt_of_cell? w _ hx425_0)).trans hx425_0
                                              replace p425 := eq_true p425
                                              replace q425 := eq_true q425
                                              go_wp2
                                              repeat (go_quiet (fail); try go_wp2)
                                              go_roundg k3
                                              case measure => have := HK1.out; have := HJ17.out; have := HK3.out; omega
                                              case rel => exact ⟨(wrap64 (x15_3 + 1)), (by first | rfl | (simp; done) | (simp [*]; done)), H', ⟨by have := HK1.out; have := HJ17.out; have := HK3.out; omega⟩, ⟨by (with_reducible repeat (first | apply Kd.R_alloc | apply Kd.R_drewN | apply Kd.R_drew)); exact HO_7.out⟩, ⟨by repeat (first | (with_reducible first | exact HB.out | apply below_alloc | apply pw_below_drewN | apply below_drew1) | exact HB.out)⟩⟩
                                            · rw [if_neg c36] at H
                                              have c36b0 : ((wrap64 ((wrap64 ((rd t416 x15_3) - (rd t416 (ji29)))) - (rd l0 (ji29)))) == 0) = false := beq_eq_false_iff_ne.mpr c36
                                              have c36b1 : ((wrap64 ((wrap64 ((rd t416 x15_3) - (rd t416 (ji29)))) - (rd l0 (ji29)))) != 0) = true := bne_iff_ne.mpr c36
                                              obtain rfl := Option.some.inj H
                                              have p423 : 0 ≤ (x15_3 : Int) := of_decide_eq_true (by first | (with_reducible assumption) | assumption)
                                              have q423 : x15_3 < (t416.length : Int) := of_decide_eq_true (by first | (with_reducible assumption) | assumption)
                                              obtain ⟨ad423, e423, hx423_0⟩ := Kd.at_int (Kd.R_reads' HO_7.out).2.2 x15_3 p423 q423
                                              obtain rfl : ad421 = ad423 := (by injection e423)
                                              replace p423 := eq_true p423
                                              replace q423 := eq_true q423
                                              have p424 : 0 ≤ ((ji29) : Int) := of_decide_eq_true (by first | (with_reducible assumption) | assumption)
                                              have q424 : (ji29) < (t416.length : Int) := of_decide_eq_true (by first | (with_reducible assumption) | assumption)
                                              obtain ⟨ad424, e424, hx424_0⟩ := Kd.at_int (Kd.R_reads' HO_7.out).2.2 (ji29) p424 q424
                                              obtain rfl : ad421 = ad424 := (by injection e424)
                                              replace p424 := eq_true p424
                                              replace q424 := eq_true q424
                                              have p425 : 0 ≤ ((ji29) : Int) := of_decide_eq_true (by first | (with_reducible assumption) | assumption)
                                              have q425 : (ji29) < (l0.length : Int) := of_decide_eq_true (by first | (with_reducible assumption) | assumption)
                                              obtain ⟨ad425, e425, hx425_0⟩ := Kd.at_int HR0.out (ji29) p425 q425
                                              obtain rfl : ad422 = ad425 := (by injection e425)
                                              replace hx425_0 := (HB.out.cell (World.block_lt_of_cell? w _ hx425_0)).trans hx425_0
                                              replace p425 := eq_true p425
                                              replace q425 := eq_true q425
                                              go_wp2
                                              repeat (go_quiet (fail); try go_wp2)
                                              go_ret
                                              exact ⟨by first | rfl | (simp [errW_none, errW_some] <;> rfl) | (simp only [← hji21, ← hji22, ← hji29]; first | rfl | (simp [errW_none, errW_some] <;> rfl)) | (simp [*, errW_none, errW_some] <;> rfl), by repeat (first | (with_reducible first | exact HB.out | apply below_alloc | apply pw_below_drewN | apply below_drew1) | exact HB.out)⟩
                                        · rw [if_neg c32] at H
                                          exact absurd H (by simp)
                                      · rw [if_neg c31] at H
                                        exact absurd H (by simp)
                                    · rw [if_neg c30] at H
                                      exact absurd H (by simp)
                                  · rw [if_neg c28] at H
                                    exact absurd H (by simp)
                                · rw [if_neg c27] at H
                                  exact absurd H (by simp)
                              · rw [if_neg c26] at H
                                have c26b0 : decide (x15_3 ≤ ji22) = false := decide_eq_false c26
                                clear c26
                                by_cases c37 : a2 = 1
                                · rw [if_pos c37] at H
                                  have c37b0 : (a2 == 1) = true := beq_iff_eq.mpr c37
                                  have c37b1 : (a2 != 1) = false := bne_eq_false_iff_eq.mpr c37
                                  clear c37
                                  by_cases c38 : 0 < (t416.length : Int)
                                  · rw [if_pos c38] at H
                                    have c38b0 : decide (0 < (t416.length : Int)) = true := decide_eq_true c38
                                    have c38b1 : decide (0 < t416.length) = true := decide_eq_true (by omega)
                                    clear c38
                                    by_cases c39 : (rd t416 0) = (wrap64 (Int.tdiv ji21 2))
                                    · rw [if_pos c39] at H
                                      have c39b0 : ((rd t416 0) == (wrap64 (Int.tdiv ji21 2))) = true := beq_iff_eq.mpr c39
                                      have c39b1 : ((rd t416 0) != (wrap64 (Int.tdiv ji21 2))) = false := bne_eq_false_iff_eq.mpr c39
                                      clear c39
                                      by_cases c40 : ji21 = 0
                                      · rw [if_pos c40] at H
                                        have c40b0 : (ji21 == 0) = true := beq_iff_eq.mpr c40
                                        have c40b1 : (ji21 != 0) = false := bne_eq_false_iff_eq.mpr c40
                                        clear c40
                                        obtain rfl := Option.some.inj H
                                        have p426 : 0 ≤ (0 : Int) := (by omega)
                                        have q426 : 0 < (t416.length : Int) := of_decide_eq_true (by first | (with_reducible assumption) | assumption)
                                        obtain ⟨ad426, e426, hx426_0⟩ := Kd.at_int (Kd.R_reads' HO_7.out).2.2 0 p426 q426
                                        obtain rfl : ad421 = ad426 := (by injection e426)
                                        have qi426 : (0 < t416.length) = True := eq_true (by omega)
                                        (try rw [show ((0 : Int)).toNat = 0 from rfl] at hx426_0)
                                        (try rw [Addr.add_zero'] at hx426_0)
                                        replace p426 := eq_true p426
                                        replace q426 := eq_true q426
                                        go_wp2
                                        repeat (go_quiet (fail); try go_wp2)
                                        go_ret
                                        exact ⟨by first | rfl | (simp [errW_none, errW_some] <;> rfl) | (simp only [← hji21, ← hji22]; first | rfl | (simp [errW_none, errW_some] <;> rfl)) | (simp [*, errW_none, errW_some] <;> rfl), by repeat (first | (with_reducible first | exact HB.out | apply below_alloc | apply pw_below_drewN | apply below_drew1) | exact HB.out)⟩
                                      · rw [if_neg c40] at H
                                        have c40b0 : (ji21 == 0) = false := beq_eq_false_iff_ne.mpr c40
                                        have c40b1 : (ji21 != 0) = true := bne_iff_ne.mpr c40
                                        by_cases c41 : (wrap64 ((rd t416 (ji22)) + (rd l0 (ji22)))) ≤ a1
                                        · rw [if_pos c41] at H
                                          have c41b0 : decide ((wrap64 ((rd t416 (ji22)) + (rd l0 (ji22)))) ≤ a1) = true := decide_eq_true c41
                                          clear c41
                                          obtain rfl := Option.some.inj H
                                          have p426 : 0 ≤ (0 : Int) := (by omega)
                                          have q426 : 0 < (t416.length : Int) := of_decide_eq_true (by first | (with_reducible assumption) | assumption)
                                          obtain ⟨ad426, e426, hx426_0⟩ := Kd.at_int (Kd.R_reads' HO_7.out).2.2 0 p426 q426
                                          obtain rfl : ad421 = ad426 := (by injection e426)
                                          have qi426 : (0 < t416.length) = True := eq_true (by omega)
                                          (try rw [show ((0 : Int)).toNat = 0 from rfl] at hx426_0)
                                          (try rw [Addr.add_zero'] at hx426_0)
                                          replace p426 := eq_true p426
                                          replace q426 := eq_true q426
                                          have p427 : 0 ≤ (0 : Int) := (by omega)
                                          have q427 : 0 < (t416.length : Int) := of_decide_eq_true (by first | (with_reducible assumption) | assumption)
                                          obtain ⟨ad427, e427, hx427_0⟩ := Kd.at_int (Kd.R_reads' HO_7.out).2.2 0 p427 q427
                                          obtain rfl : ad421 = ad427 := (by injection e427)
                                          have qi427 : (0 < t416.length) = True := eq_true (by omega)
                                          (try rw [show ((0 : Int)).toNat = 0 from rfl] at hx427_0)
                                          (try rw [Addr.add_zero'] at hx427_0)
                                          replace p427 := eq_true p427
                                          replace q427 := eq_true q427
                                          go_wp2
                                          repeat (go_quiet (fail); try go_wp2)
                                          go_ret
                                          exact ⟨by first | rfl | (simp [errW_none, errW_some] <;> rfl) | (simp only [← hji21, ← hji22]; first | rfl | (simp [errW_none, errW_some] <;> rfl)) | (simp [*, errW_none, errW_some] <;> rfl), by repeat (first | (with_reducible first | exact HB.out | apply below_alloc | apply pw_below_drewN | apply below_drew1) | exact HB.out)⟩
                                        · rw [if_neg c41] at H
                                          have c41b0 : decide ((wrap64 ((rd t416 (ji22)) + (rd l0 (ji22)))) ≤ a1) = false := decide_eq_false c41
                                          clear c41
                                          obtain rfl := Option.some.inj H
                                          have p426 : 0 ≤ (0 : Int) := (by omega)
                                          have q426 : 0 < (t416.length : Int) := of_decide_eq_true (by first | (with_reducible assumption) | assumption)
                                          obtain ⟨ad426, e426, hx426_0⟩ := Kd.at_int (Kd.R_reads' HO_7.out).2.2 0 p426 q426
                                          obtain rfl : ad421 = ad426 := (by injection e426)
                                          have qi426 : (0 < t416.length) = True := eq_true (by omega)
                                          (try rw [show ((0 : Int)).toNat = 0 from rfl] at hx426_0)
                                          (try rw [Addr.add_zero'] at hx426_0)
                                          replace p426 := eq_true p426
                                          replace q426 := eq_true q426
                                          go_wp2
                                          repeat (go_quiet (fail); try go_wp2)
                                          go_ret
                                          exact ⟨by first | rfl | (simp [errW_none, errW_some] <;> rfl) | (simp only [← hji21, ← hji22]; first | rfl | (simp [errW_none, errW_some] <;> rfl)) | (simp [*, errW_none, errW_some] <;> rfl), by repeat (first | (with_reducible first | exact HB.out | apply below_alloc | apply pw_below_drewN | apply below_drew1) | exact HB.out)⟩
                                    · rw [if_neg c39] at H
                                      have c39b0 : ((rd t416 0) == (wrap64 (Int.tdiv ji21 2))) = false := beq_eq_false_iff_ne.mpr c39
                                      have c39b1 : ((rd t416 0) != (wrap64 (Int.tdiv ji21 2))) = true := bne_iff_ne.mpr c39
                                      obtain rfl := Option.some.inj H
                                      have p426 : 0 ≤ (0 : Int) := (by omega)
                                      have q426 : 0 < (t416.length : Int) := of_decide_eq_true (by first | (with_reducible assumption) | assumption)
                                      obtain ⟨ad426, e426, hx426_0⟩ := Kd.at_int (Kd.R_reads' HO_7.out).2.2 0 p426 q426
                                      obtain rfl : ad421 = ad426 := (by injection e426)
                                      have qi426 : (0 < t416.length) = True := eq_true (by omega)
                                      (try rw [show ((0 : Int)).toNat = 0 from rfl] at hx426_0)
                                      (try rw [Addr.add_zero'] at hx426_0)
                                      replace p426 := eq_true p426
                                      replace q426 := eq_true q426
                                      go_wp2
                                      repeat (go_quiet (fail); try go_wp2)
                                      go_ret
                                      exact ⟨by first | rfl | (simp [errW_none, errW_some] <;> rfl) | (simp only [← hji21, ← hji22]; first | rfl | (simp [errW_none, errW_some] <;> rfl)) | (simp [*, errW_none, errW_some] <;> rfl), by repeat (first | (with_reducible first | exact HB.out | apply below_alloc | apply pw_below_drewN | apply below_drew1) | exact HB.out)⟩
                                  · rw [if_neg c38] at H
                                    exact absurd H (by simp)
                                · rw [if_neg c37] at H
                                  have c37b0 : (a2 == 1) = false := beq_eq_false_iff_ne.mpr c37
                                  have c37b1 : (a2 != 1) = true := bne_iff_ne.mpr c37
                                  by_cases c42 : a2 = 2
                                  · rw [if_pos c42] at H
                                    have c42b0 : (a2 == 2) = true := beq_iff_eq.mpr c42
                                    have c42b1 : (a2 != 2) = false := bne_eq_false_iff_eq.mpr c42
                                    clear c42
                                    by_cases c43 : 0 < (t416.length : Int)
                                    · rw [if_pos c43] at H
                                      have c43b0 : decide (0 < (t416.length : Int)) = true := decide_eq_true c43
                                      have c43b1 : decide (0 < t416.length) = true := decide_eq_true (by omega)
                                      clear c43
                                      by_cases c44 : (rd t416 0) = ji21
                                      · rw [if_pos c44] at H
                                        have c44b0 : ((rd t416 0) == ji21) = true := beq_iff_eq.mpr c44
                                        have c44b1 : ((rd t416 0) != ji21) = false := bne_eq_false_iff_eq.mpr c44
                                        clear c44
                                        by_cases c45 : ji21 = 0
                                        · rw [if_pos c45] at H
                                          have c45b0 : (ji21 == 0) = true := beq_iff_eq.mpr c45
                                          have c45b1 : (ji21 != 0) = false := bne_eq_false_iff_eq.mpr c45
                                          clear c45
                                          obtain rfl := Option.some.inj H
                                          have p428 : 0 ≤ (0 : Int) := (by omega)
                                          have q428 : 0 < (t416.length : Int) := of_decide_eq_true (by first | (with_reducible assumption) | assumption)
                                          obtain ⟨ad428, e428, hx428_0⟩ := Kd.at_int (Kd.R_reads' HO_7.out).2.2 0 p428 q428
                                          obtain rfl : ad421 = ad428 := (by injection e428)
                                          have qi428 : (0 < t416.length) = True := eq_true (by omega)
                                          (try rw [show ((0 : Int)).toNat = 0 from rfl] at hx428_0)
                                          (try rw [Addr.add_zero'] at hx428_0)
                                          replace p428 := eq_true p428
                                          replace q428 := eq_true q428
                                          go_wp2
                                          repeat (go_quiet (fail); try go_wp2)
                                          go_ret
                                          exact ⟨by first | rfl | (simp [errW_none, errW_some] <;> rfl) | (simp only [← hji21, ← hji22]; first | rfl | (simp [errW_none, errW_some] <;> rfl)) | (simp [*, errW_none, errW_some] <;> rfl), by repeat (first | (with_reducible first | exact HB.out | apply below_alloc | apply pw_below_drewN | apply below_drew1) | exact HB.out)⟩
                                        · rw [if_neg c45] at H
                                          have c45b0 : (ji21 == 0) = false := beq_eq_false_iff_ne.mpr c45
                                          have c45b1 : (ji21 != 0) = true := bne_iff_ne.mpr c45
                                          obtain rfl := Option.some.inj H
                                          have p428 : 0 ≤ (0 : Int) := (by omega)
                                          have q428 : 0 < (t416.length : Int) := of_decide_eq_true (by first | (with_reducible assumption) | assumption)
                                          obtain ⟨ad428, e428, hx428_0⟩ := Kd.at_int (Kd.R_reads' HO_7.out).2.2 0 p428 q428
                                          obtain rfl : ad421 = ad428 := (by injection e428)
                                          have qi428 : (0 < t416.length) = True := eq_true (by omega)
                                          (try rw [show ((0 : Int)).toNat = 0 from rfl] at hx428_0)
                                          (try rw [Addr.add_zero'] at hx428_0)
                                          replace p428 := eq_true p428
                                          replace q428 := eq_true q428
                                          go_wp2
                                          repeat (go_quiet (fail); try go_wp2)
                                          go_ret
                                          exact ⟨by first | rfl | (simp [errW_none, errW_some] <;> rfl) | (simp only [← hji21, ← hji22]; first | rfl | (simp [errW_none, errW_some] <;> rfl)) | (simp [*, errW_none, errW_some] <;> rfl), by repeat (first | (with_reducible first | exact HB.out | apply below_alloc | apply pw_below_drewN | apply below_drew1) | exact HB.out)⟩
                                      · rw [if_neg c44] at H
                                        have c44b0 : ((rd t416 0) == ji21) = false := beq_eq_false_iff_ne.mpr c44
                                        have c44b1 : ((rd t416 0) != ji21) = true := bne_iff_ne.mpr c44
                                        obtain rfl := Option.some.inj H
                                        have p428 : 0 ≤ (0 : Int) := (by omega)
                                        have q428 : 0 < (t416.length : Int) := of_decide_eq_true (by first | (with_reducible assumption) | assumption)
                                        obtain ⟨ad428, e428, hx428_0⟩ := Kd.at_int (Kd.R_reads' HO_7.out).2.2 0 p428 q428
                                        obtain rfl : ad421 = ad428 := (by injection e428)
                                        have qi428 : (0 < t416.length) = True := eq_true (by omega)
                                        (try rw [show ((0 : Int)).toNat = 0 from rfl] at hx428_0)
                                        (try rw [Addr.add_zero'] at hx428_0)
                                        replace p428 := eq_true p428
                                        replace q428 := eq_true q428
                                        go_wp2
                                        repeat (go_quiet (fail); try go_wp2)
                                        go_ret
                                        exact ⟨by first | rfl | (simp [errW_none, errW_some] <;> rfl) | (simp only [← hji21, ← hji22]; first | rfl | (simp [errW_none, errW_some] <;> rfl)) | (simp [*, errW_none, errW_some] <;> rfl), by repeat (first | (with_reducible first | exact HB.out | apply below_alloc | apply pw_below_drewN | apply below_drew1) | exact HB.out)⟩
                                    · rw [if_neg c43] at H
                                      exact absurd H (by simp)
                                  · rw [if_neg c42] at H
                                    have c42b0 : (a2 == 2) = false := beq_eq_false_iff_ne.mpr c42
                                    have c42b1 : (a2 != 2) = true := bne_iff_ne.mpr c42
                                    by_cases c46 : 0 < (t416.length : Int)
                                    · rw [if_pos c46] at H
                                      have c46b0 : decide (0 < (t416.length : Int)) = true := decide_eq_true c46
                                      have c46b1 : decide (0 < t416.length) = true := decide_eq_true (by omega)
                                      clear c46
                                      by_cases c47 : (rd t416 0) = 0
                                      · rw [if_pos c47] at H
                                        have c47b0 : ((rd t416 0) == 0) = true := beq_iff_eq.mpr c47
                                        have c47b1 : ((rd t416 0) != 0) = false := bne_eq_false_iff_eq.mpr c47
                                        clear c47
                                        by_cases c48 : ji21 = 0
                                        · rw [if_pos c48] at H
                                          have c48b0 : (ji21 == 0) = true := beq_iff_eq.mpr c48
                                          have c48b1 : (ji21 != 0) = false := bne_eq_false_iff_eq.mpr c48
                                          clear c48
                                          obtain rfl := Option.some.inj H
                                          have p429 : 0 ≤ (0 : Int) := (by omega)
                                          have q429 : 0 < (t416.length : Int) := of_decide_eq_true (by first | (with_reducible assumption) | assumption)
                                          obtain ⟨ad429, e429, hx429_0⟩ := Kd.at_int (Kd.R_reads' HO_7.out).2.2 0 p429 q429
                                          obtain rfl : ad421 = ad429 := (by injection e429)
                                          have qi429 : (0 < t416.length) = True := eq_true (by omega)
                                          (try rw [show ((0 : Int)).toNat = 0 from rfl] at hx429_0)
                                          (try rw [Addr.add_zero'] at hx429_0)
                                          replace p429 := eq_true p429
                                          replace q429 := eq_true q429
                                          go_wp2
                                          repeat (go_quiet (fail); try go_wp2)
                                          go_ret
                                          exact ⟨by first | rfl | (simp [errW_none, errW_some] <;> rfl) | (simp only [← hji21, ← hji22]; first | rfl | (simp [errW_none, errW_some] <;> rfl)) | (simp [*, errW_none, errW_some] <;> rfl), by repeat (first | (with_reducible first | exact HB.out | apply below_alloc | apply pw_below_drewN | apply below_drew1) | exact HB.out)⟩
                                        · rw [if_neg c48] at H
                                          have c48b0 : (ji21 == 0) = false := beq_eq_false_iff_ne.mpr c48
                                          have c48b1 : (ji21 != 0) = true := bne_iff_ne.mpr c48
                                          obtain rfl := Option.some.inj H
                                          have p429 : 0 ≤ (0 : Int) := (by omega)
                                          have q429 : 0 < (t416.length : Int) := of_decide_eq_true (by first | (with_reducible assumption) | assumption)
                                          obtain ⟨ad429, e429, hx429_0⟩ := Kd.at_int (Kd.R_reads' HO_7.out).2.2 0 p429 q429
                                          obtain rfl : ad421 = ad429 := (by injection e429)
                                          have qi429 : (0 < t416.length) = True := eq_true (by omega)
                                          (try rw [show ((0 : Int)).toNat = 0 from rfl] at hx429_0)
                                          (try rw [Addr.add_zero'] at hx429_0)
                                          replace p429 := eq_true p429
                                          replace q429 := eq_true q429
                                          go_wp2
                                          repeat (go_quiet (fail); try go_wp2)
                                          go_ret
                                          exact ⟨by first | rfl | (simp [errW_none, errW_some] <;> rfl) | (simp only [← hji21, ← hji22]; first | rfl | (simp [errW_none, errW_some] <;> rfl)) | (simp [*, errW_none, errW_some] <;> rfl), by repeat (first | (with_reducible first | exact HB.out | apply below_alloc | apply pw_below_drewN | apply below_drew1) | exact HB.out)⟩
                                      · rw [if_neg c47] at H
                                        have c47b0 : ((rd t416 0) == 0) = false := beq_eq_false_iff_ne.mpr c47
                                        have c47b1 : ((rd t416 0) != 0) = true := bne_iff_ne.mpr c47
                                        obtain rfl := Option.some.inj H
                                        have p429 : 0 ≤ (0 : Int) := (by omega)
                                        have q429 : 0 < (t416.length : Int) := of_decide_eq_true (by first | (with_reducible assumption) | assumption)
                                        obtain ⟨ad429, e429, hx429_0⟩ := Kd.at_int (Kd.R_reads' HO_7.out).2.2 0 p429 q429
                                        obtain rfl : ad421 = ad429 := (by injection e429)
                                        have qi429 : (0 < t416.length) = True := eq_true (by omega)
                                        (try rw [show ((0 : Int)).toNat = 0 from rfl] at hx429_0)
                                        (try rw [Addr.add_zero'] at hx429_0)
                                        replace p429 := eq_true p429
                                        replace q429 := eq_true q429
                                        go_wp2
                                        repeat (go_quiet (fail); try go_wp2)
                                        go_ret
                                        exact ⟨by first | rfl | (simp [errW_none, errW_some] <;> rfl) | (simp only [← hji21, ← hji22]; first | rfl | (simp [errW_none, errW_some] <;> rfl)) | (simp [*, errW_none, errW_some] <;> rfl), by repeat (first | (with_reducible first | exact HB.out | apply below_alloc | apply pw_below_drewN | apply below_drew1) | exact HB.out)⟩
                                    · rw [if_neg c46] at H
                                      exact absurd H (by simp)
                        · rw [if_neg c25] at H
                          exact absurd H (by simp)
                      · rw [if_neg c24] at H
                        exact absurd H (by simp)
                    · rw [if_neg c23] at H
                      exact absurd H (by simp)
      · rw [if_neg c9] at H
        have c9b0 : ((t416.length : Int) == (l0.length : Int)) = false := beq_eq_false_iff_ne.mpr c9
        have c9b1 : ((t416.length : Int) != (l0.length : Int)) = true := bne_iff_ne.mpr c9
        have c9b2 : (t416.length == l0.length) = false := by first | simpa using c9 | (simp at c9 ⊢; omega)
        obtain rfl := Option.some.inj H
        go_enter Try.func8, Try.ntmps8
        go_wp2_with (first | (go_at_call 14; (with_reducible refine (scrimlaw18_awake.calls k  true _ A4.out).mono ?_); rintro e w49 ⟨rfl, hb⟩; have n0_ := Aside0.mk (below_step (by repeat (first | (with_reducible first | exact HB.out | apply below_alloc | apply pw_below_drewN | apply below_drew1) | exact HB.out)) hb); clear HB; have HB := n0_; clear n0_; (try clear hb); (try clear hb2); (try clear hk); (try clear hi)) | (go_at_call 18; (with_reducible refine (flex_Justify.calls k _ _ l0 a1 a2 t416 t417 _ ?side1 ?side2 A8.out).mono ?_); (case side1 => repeat (first | exact (Kd.C_below HR0.out HB.out) | (with_reducible refine Kd.C_alloc ?_ _) | (with_reducible refine Kd.C_drewN ?_ _) | (with_reducible refine Kd.C_drew ?_))); (case side2 => exact HC0.out); rintro e w50 ⟨v418, rfl, ho0, hb⟩; have n0_ := Aside0.mk (Kd.R_lower ho0 (below_size (by repeat (first | (with_reducible first | exact HB.out | apply below_alloc | apply pw_below_drewN | apply below_drew1) | exact HB.out)))); have n1_ := Aside0.mk (below_step (by repeat (first | (with_reducible first | exact HB.out | apply below_alloc | apply pw_below_drewN | apply below_drew1) | exact HB.out)) hb); clear HB; have HO419 := n0_; have HB := n1_; clear n0_ n1_; (try clear hb); (try clear hb2); (try clear hk); (try clear hi); (try clear ho0); obtain ⟨Ao51, co51, eo51⟩ := Kd.R_slice HO419.out; subst eo51))
        repeat (go_quiet (first | (go_at_call 14; (with_reducible refine (scrimlaw18_awake.calls k  true _ A4.out).mono ?_); rintro e w49 ⟨rfl, hb⟩; have n0_ := Aside0.mk (below_step (by repeat (first | (with_reducible first | exact HB.out | apply below_alloc | apply pw_below_drewN | apply below_drew1) | exact HB.out)) hb); clear HB; have HB := n0_; clear n0_; (try clear hb); (try clear hb2); (try clear hk); (try clear hi)) | (go_at_call 18; (with_reducible refine (flex_Justify.calls k _ _ l0 a1 a2 t416 t417 _ ?side1 ?side2 A8.out).mono ?_); (case side1 => repeat (first | exact (Kd.C_below HR0.out HB.out) | (with_reducible refine Kd.C_alloc ?_ _) | (with_reducible refine Kd.C_drewN ?_ _) | (with_reducible refine Kd.C_drew ?_))); (case side2 => exact HC0.out); rintro e w50 ⟨v418, rfl, ho0, hb⟩; have n0_ := Aside0.mk (Kd.R_lower ho0 (below_size (by repeat (first | (with_reducible first | exact HB.out | apply below_alloc | apply pw_below_drewN | apply below_drew1) | exact HB.out)))); have n1_ := Aside0.mk (below_step (by repeat (first | (with_reducible first | exact HB.out | apply below_alloc | apply pw_below_drewN | apply below_drew1) | exact HB.out)) hb); clear HB; have HO419 := n0_; have HB := n1_; clear n0_ n1_; (try clear hb); (try clear hb2); (try clear hk); (try clear hi); (try clear ho0); obtain ⟨Ao51, co51, eo51⟩ := Kd.R_slice HO419.out; subst eo51)); try go_wp2_with (first | (go_at_call 14; (with_reducible refine (scrimlaw18_awake.calls k  true _ A4.out).mono ?_); rintro e w49 ⟨rfl, hb⟩; have n0_ := Aside0.mk (below_step (by repeat (first | (with_reducible first | exact HB.out | apply below_alloc | apply pw_below_drewN | apply below_drew1) | exact HB.out)) hb); clear HB; have HB := n0_; clear n0_; (try clear hb); (try clear hb2); (try clear hk); (try clear hi)) | (go_at_call 18; (with_reducible refine (flex_Justify.calls k _ _ l0 a1 a2 t416 t417 _ ?side1 ?side2 A8.out).mono ?_); (case side1 => repeat (first | exact (Kd.C_below HR0.out HB.out) | (with_reducible refine Kd.C_alloc ?_ _) | (with_reducible refine Kd.C_drewN ?_ _) | (with_reducible refine Kd.C_drew ?_))); (case side2 => exact HC0.out); rintro e w50 ⟨v418, rfl, ho0, hb⟩; have n0_ := Aside0.mk (Kd.R_lower ho0 (below_size (by repeat (first | (with_reducible first | exact HB.out | apply below_alloc | apply pw_below_drewN | apply below_drew1) | exact HB.out)))); have n1_ := Aside0.mk (below_step (by repeat (first | (with_reducible first | exact HB.out | apply below_alloc | apply pw_below_drewN | apply below_drew1) | exact HB.out)) hb); clear HB; have HO419 := n0_; have HB := n1_; clear n0_ n1_; (try clear hb); (try clear hb2); (try clear hk); (try clear hi); (try clear ho0); obtain ⟨Ao51, co51, eo51⟩ := Kd.R_slice HO419.out; subst eo51)))
        go_ret
        exact ⟨by first | rfl | (simp [errW_none, errW_some] <;> rfl) | (simp [*, errW_none, errW_some] <;> rfl), by repeat (first | (with_reducible first | exact HB.out | apply below_alloc | apply pw_below_drewN | apply below_drew1) | exact HB.out)⟩
  · replace c5 := Bool.eq_false_iff.mpr c5
    subst c5
    have H1 : (some false) = some r := by rw [if_neg (show ¬ (false = true) by decide)] at H; exact H
    clear H
    have H := H1
    clear H1
    obtain rfl := Option.some.inj H
    go_enter Try.func8, Try.ntmps8
    go_wp2_with (first | (go_at_call 14; (with_reducible refine (scrimlaw18_awake.calls k  false _ A4.out).mono ?_); rintro e w52 ⟨rfl, hb⟩; have n0_ := Aside0.mk (below_step (by repeat (first | (with_reducible first | exact HB.out | apply below_alloc | apply pw_below_drewN | apply below_drew1) | exact HB.out)) hb); clear HB; have HB := n0_; clear n0_; (try clear hb); (try clear hb2); (try clear hk); (try clear hi)))
    repeat (go_quiet (first | (go_at_call 14; (with_reducible refine (scrimlaw18_awake.calls k  false _ A4.out).mono ?_); rintro e w52 ⟨rfl, hb⟩; have n0_ := Aside0.mk (below_step (by repeat (first | (with_reducible first | exact HB.out | apply below_alloc | apply pw_below_drewN | apply below_drew1) | exact HB.out)) hb); clear HB; have HB := n0_; clear n0_; (try clear hb); (try clear hb2); (try clear hk); (try clear hi))); try go_wp2_with (first | (go_at_call 14; (with_reducible refine (scrimlaw18_awake.calls k  false _ A4.out).mono ?_); rintro e w52 ⟨rfl, hb⟩; have n0_ := Aside0.mk (below_step (by repeat (first | (with_reducible first | exact HB.out | apply below_alloc | apply pw_below_drewN | apply below_drew1) | exact HB.out)) hb); clear HB; have HB := n0_; clear n0_; (try clear hb); (try clear hb2); (try clear hk); (try clear hi))))
    go_ret
    exact ⟨by first | rfl | (simp [errW_none, errW_some] <;> rfl) | (simp [*, errW_none, errW_some] <;> rfl), by repeat (first | (with_reducible first | exact HB.out | apply below_alloc | apply pw_below_drewN | apply below_drew1) | exact HB.out)⟩

/-- THE ONE PURE STATEMENT of scrimlaw18_FlexStands: yours. -/
def scrimlaw18_FlexStands.Pure : Prop := ∀ (l0 : List Int) (a1 : Int) (a2 : Int), l0.length ≤ maxLen → l0.length * 8 ≤ 140737488351232 → (∀ x ∈ l0, (Lit.int .i64 x).wf = true) → (Lit.int .i64 a1).wf = true → (Lit.int .i64 a2).wf = true → ∃ k, scrimlaw18_FlexStands.f k l0 a1 a2 = some true
theorem scrimlaw18_FlexStands.walk (P : scrimlaw18_FlexStands.Pure) (a0 : Option Addr) (len0 cap0 : Nat) (z0 : List Int) (a1 : Int) (a2 : Int) (w : World) (w0 : (a0 = none ∧ len0 = 0 ∧ cap0 = 0 ∧ z0 = []) ∨ ∃ x, a0 = some x ∧ len0 ≤ cap0 ∧ cap0 ≤ maxLen ∧ z0.length = cap0 ∧ (∀ i, i < z0.length → w.cell? (x.add i) = some (.int .i64 (z0.getD i 0))) ∧ ∀ n ∈ z0, (Lit.int .i64 n).wf = true) (y0 : len0 * 8 ≤ 140737488351232) (w1 : (Lit.int .i64 a1).wf = true) (w2 : (Lit.int .i64 a2).wf = true) :
    Calls Try.prog 8 #[.slice a0 len0 cap0, .int .i64 a1, .int .i64 a2] w fun e w' => e = .returned (.bool true) ∧ Below w.heap.size w w' := by
  obtain ⟨l0, rfl, hr0, hm0, hw0, hc0⟩ := ReadsInt.ofRowC w0
  obtain ⟨k, h⟩ := P l0 a1 a2 hm0 y0 hw0 w1 w2
  refine (scrimlaw18_FlexStands.calls k _ _ l0 a1 a2 true w (Kd.C_of_reads (d := (0 : Int)) (h1 := fun _ => rfl) hr0) hc0 h).mono ?_
  rintro e w' ⟨rfl, hd⟩
  exact ⟨rfl, hd⟩

-- NOT PRINTED: function 9 (scrimlaw18_FlexOrder)

end Go.Proofs.Ytdifaomkaekglaa.HF
