-- Written by a program of this session (wip/tools/hprint.py), which drives the kit's print; not print.sh's own output.
import Derived.Test.YtmfhhlgjbjbnhaaGreatDoorHV0
import Derived.Test.YtmfhhlgjbjbnhaaGreatDoorHV4
namespace Go.Proofs.YtmfhhlgjbjbnhaaGreatDoor.HV
open Go.RowKit Go.Proofs.YtmfhhlgjbjbnhaaGreatDoorW.PrintWords Go.Proofs.YtmfhhlgjbjbnhaaGreatDoorW.PrintLast Go.Proofs.YtmfhhlgjbjbnhaaGreatDoorW.PrintMore
attribute [local go_sem] max2_int min2_int max_two min_two max_three min_three max_four min_four   -- for this text's walks alone
set_option linter.unusedVariables false
set_option linter.unusedSimpArgs false

/-! ### scrimref08_number: function 42 -/
mutual
def scrimref08_number.j0 : Nat → ByteArray → Bool → Option (Int × Bool)
  | 0, _, _ => none
  | k + 1, x0, x18 => if x18 = true then (if 1 ≤ (x0.size : Int) then ((scrimref08_number.f k (x0.extract 1 x0.size)).bind fun bt175 => (if bt175.2 = true then (if 1 < (x0.size : Int) then (some (wrap64 (-bt175.1), ((bt x0 1) != 45))) else (none)) else (some (wrap64 (-bt175.1), false)))) else (none)) else (scrimref08_number.l0 k x0 (x0.size : Int) (wrap64 ((x0.size : Int) - 1)))
def scrimref08_number.l0 : Nat → ByteArray → Int → Int → Option (Int × Bool)
  | 0, _, _, _ => none
  | k + 1, x0, x6, x7 => if x7 ≥ 0 then (if 0 ≤ x7 then (if x7 < (x0.size : Int) then (if (bt x0 x7) = 46 then (scrimref08_number.l0 k x0 x7 (wrap64 (x7 - 1))) else (scrimref08_number.l0 k x0 x6 (wrap64 (x7 - 1)))) else (none)) else (none)) else (if 0 ≤ x6 then (if x6 ≤ (x0.size : Int) then (if x6 < (x0.size : Int) then (if 0 ≤ (wrap64 (x6 + 1)) then (if (wrap64 (x6 + 1)) ≤ (x0.size : Int) then (scrimref08_number.j2 k (x0.extract 0 (x6 : Int).toNat) (x0.extract ((wrap64 (x6 + 1)) : Int).toNat x0.size)) else (none)) else (none)) else (scrimref08_number.j2 k (x0.extract 0 (x6 : Int).toNat) (⟨#[48]⟩ : ByteArray))) else (none)) else (none))
def scrimref08_number.j2 : Nat → ByteArray → ByteArray → Option (Int × Bool)
  | 0, _, _ => none
  | k + 1, x8, x9 => if x8.toList = ([] : List UInt8) then (scrimref08_number.j3 k x8 x9 true) else (if x9.toList = ([] : List UInt8) then (scrimref08_number.j3 k x8 x9 true) else (if (x8.size : Int) > 9 then (scrimref08_number.j3 k x8 x9 true) else (if (x9.size : Int) > 6 then (scrimref08_number.j3 k x8 x9 true) else ((scrimref08_digits.f k x8).bind fun t177 => (if t177 < 0 then (scrimref08_number.j3 k x8 x9 true) else ((scrimref08_digits.f k x9).bind fun t178 => (scrimref08_number.j3 k x8 x9 (decide (t178 < 0)))))))))
def scrimref08_number.j3 : Nat → ByteArray → ByteArray → Bool → Option (Int × Bool)
  | 0, _, _, _ => none
  | k + 1, x8, x9, x83 => if x83 = true then (some (0, false)) else (scrimref08_number.l1 k x8 x9 1 0)
def scrimref08_number.l1 : Nat → ByteArray → ByteArray → Int → Int → Option (Int × Bool)
  | 0, _, _, _, _ => none
  | k + 1, x8, x9, x10, x11 => if x11 < (x9.size : Int) then (scrimref08_number.l1 k x8 x9 (wrap64 (10 * x10)) (wrap64 (x11 + 1))) else ((scrimref08_digits.f k x8).bind fun t179 => ((scrimref08_digits.f k x9).bind fun t180 => (if x10 = 0 then (none) else (some (wrap64 ((wrap64 (64 * t179)) + (wrap64 (Int.tdiv (wrap64 (64 * t180)) x10))), true)))))
def scrimref08_number.f : Nat → ByteArray → Option (Int × Bool)
  | 0, _ => none
  | k + 1, a0 => if a0.toList = ([] : List UInt8) then (scrimref08_number.j0 k a0 false) else (if 0 < (a0.size : Int) then (scrimref08_number.j0 k a0 ((bt a0 0) == 45)) else (none))
end
theorem scrimref08_number.mono_l : ∀ k, (∀ y0, LeO (scrimref08_number.f k y0) (scrimref08_number.f (k + 1) y0)) ∧ (∀ y0 y1, LeO (scrimref08_number.j0 k y0 y1) (scrimref08_number.j0 (k + 1) y0 y1)) ∧ (∀ y0 y1 y2, LeO (scrimref08_number.l0 k y0 y1 y2) (scrimref08_number.l0 (k + 1) y0 y1 y2)) ∧ (∀ y0 y1, LeO (scrimref08_number.j2 k y0 y1) (scrimref08_number.j2 (k + 1) y0 y1)) ∧ (∀ y0 y1 y2, LeO (scrimref08_number.j3 k y0 y1 y2) (scrimref08_number.j3 (k + 1) y0 y1 y2)) ∧ (∀ y0 y1 y2 y3, LeO (scrimref08_number.l1 k y0 y1 y2 y3) (scrimref08_number.l1 (k + 1) y0 y1 y2 y3))
  | 0 => ⟨fun _ r h => by simp [scrimref08_number.f] at h, fun _ _ r h => by simp [scrimref08_number.j0] at h, fun _ _ _ r h => by simp [scrimref08_number.l0] at h, fun _ _ r h => by simp [scrimref08_number.j2] at h, fun _ _ _ r h => by simp [scrimref08_number.j3] at h, fun _ _ _ _ r h => by simp [scrimref08_number.l1] at h⟩
  | k + 1 => by
    obtain ⟨ih0, ih1, ih2, ih3, ih4, ih5⟩ := scrimref08_number.mono_l k
    refine ⟨?_, ?_, ?_, ?_, ?_, ?_⟩
    · intro y0
      unfold scrimref08_number.f
      repeat' first
      | (with_reducible exact ih0 _)
      | (with_reducible exact ih1 _ _)
      | (with_reducible exact ih2 _ _ _)
      | (with_reducible exact ih3 _ _)
      | (with_reducible exact ih4 _ _ _)
      | (with_reducible exact ih5 _ _ _ _)
      | (with_reducible exact scrimref08_digits.mono _ _)
      | (with_reducible exact LeO.refl _)
      | (with_reducible exact LeO.none _)
      | (with_reducible refine LeO.ite ?_ ?_)
      | (with_reducible refine LeO.bind ?_ (fun _ => ?_))
      | exact ih0 _
      | exact ih1 _ _
      | exact ih2 _ _ _
      | exact ih3 _ _
      | exact ih4 _ _ _
      | exact ih5 _ _ _ _
      | exact scrimref08_digits.mono _ _
      | exact LeO.none _
      | refine LeO.ite ?_ ?_
      | refine LeO.bind ?_ (fun _ => ?_)
    · intro y0 y1
      unfold scrimref08_number.j0
      repeat' first
      | (with_reducible exact ih0 _)
      | (with_reducible exact ih1 _ _)
      | (with_reducible exact ih2 _ _ _)
      | (with_reducible exact ih3 _ _)
      | (with_reducible exact ih4 _ _ _)
      | (with_reducible exact ih5 _ _ _ _)
      | (with_reducible exact scrimref08_digits.mono _ _)
      | (with_reducible exact LeO.refl _)
      | (with_reducible exact LeO.none _)
      | (with_reducible refine LeO.ite ?_ ?_)
      | (with_reducible refine LeO.bind ?_ (fun _ => ?_))
      | exact ih0 _
      | exact ih1 _ _
      | exact ih2 _ _ _
      | exact ih3 _ _
      | exact ih4 _ _ _
      | exact ih5 _ _ _ _
      | exact scrimref08_digits.mono _ _
      | exact LeO.none _
      | refine LeO.ite ?_ ?_
      | refine LeO.bind ?_ (fun _ => ?_)
    · intro y0 y1 y2
      unfold scrimref08_number.l0
      repeat' first
      | (with_reducible exact ih0 _)
      | (with_reducible exact ih1 _ _)
      | (with_reducible exact ih2 _ _ _)
      | (with_reducible exact ih3 _ _)
      | (with_reducible exact ih4 _ _ _)
      | (with_reducible exact ih5 _ _ _ _)
      | (with_reducible exact scrimref08_digits.mono _ _)
      | (with_reducible exact LeO.refl _)
      | (with_reducible exact LeO.none _)
      | (with_reducible refine LeO.ite ?_ ?_)
      | (with_reducible refine LeO.bind ?_ (fun _ => ?_))
      | exact ih0 _
      | exact ih1 _ _
      | exact ih2 _ _ _
      | exact ih3 _ _
      | exact ih4 _ _ _
      | exact ih5 _ _ _ _
      | exact scrimref08_digits.mono _ _
      | exact LeO.none _
      | refine LeO.ite ?_ ?_
      | refine LeO.bind ?_ (fun _ => ?_)
    · intro y0 y1
      unfold scrimref08_number.j2
      repeat' first
      | (with_reducible exact ih0 _)
      | (with_reducible exact ih1 _ _)
      | (with_reducible exact ih2 _ _ _)
      | (with_reducible exact ih3 _ _)
      | (with_reducible exact ih4 _ _ _)
      | (with_reducible exact ih5 _ _ _ _)
      | (with_reducible exact scrimref08_digits.mono _ _)
      | (with_reducible exact LeO.refl _)
      | (with_reducible exact LeO.none _)
      | (with_reducible refine LeO.ite ?_ ?_)
      | (with_reducible refine LeO.bind ?_ (fun _ => ?_))
      | exact ih0 _
      | exact ih1 _ _
      | exact ih2 _ _ _
      | exact ih3 _ _
      | exact ih4 _ _ _
      | exact ih5 _ _ _ _
      | exact scrimref08_digits.mono _ _
      | exact LeO.none _
      | refine LeO.ite ?_ ?_
      | refine LeO.bind ?_ (fun _ => ?_)
    · intro y0 y1 y2
      unfold scrimref08_number.j3
      repeat' first
      | (with_reducible exact ih0 _)
      | (with_reducible exact ih1 _ _)
      | (with_reducible exact ih2 _ _ _)
      | (with_reducible exact ih3 _ _)
      | (with_reducible exact ih4 _ _ _)
      | (with_reducible exact ih5 _ _ _ _)
      | (with_reducible exact scrimref08_digits.mono _ _)
      | (with_reducible exact LeO.refl _)
      | (with_reducible exact LeO.none _)
      | (with_reducible refine LeO.ite ?_ ?_)
      | (with_reducible refine LeO.bind ?_ (fun _ => ?_))
      | exact ih0 _
      | exact ih1 _ _
      | exact ih2 _ _ _
      | exact ih3 _ _
      | exact ih4 _ _ _
      | exact ih5 _ _ _ _
      | exact scrimref08_digits.mono _ _
      | exact LeO.none _
      | refine LeO.ite ?_ ?_
      | refine LeO.bind ?_ (fun _ => ?_)
    · intro y0 y1 y2 y3
      unfold scrimref08_number.l1
      repeat' first
      | (with_reducible exact ih0 _)
      | (with_reducible exact ih1 _ _)
      | (with_reducible exact ih2 _ _ _)
      | (with_reducible exact ih3 _ _)
      | (with_reducible exact ih4 _ _ _)
      | (with_reducible exact ih5 _ _ _ _)
      | (with_reducible exact scrimref08_digits.mono _ _)
      | (with_reducible exact LeO.refl _)
      | (with_reducible exact LeO.none _)
      | (with_reducible refine LeO.ite ?_ ?_)
      | (with_reducible refine LeO.bind ?_ (fun _ => ?_))
      | exact ih0 _
      | exact ih1 _ _
      | exact ih2 _ _ _
      | exact ih3 _ _
      | exact ih4 _ _ _
      | exact ih5 _ _ _ _
      | exact scrimref08_digits.mono _ _
      | exact LeO.none _
      | refine LeO.ite ?_ ?_
      | refine LeO.bind ?_ (fun _ => ?_)
theorem scrimref08_number.mono : ∀ a0 k, LeO (scrimref08_number.f k a0) (scrimref08_number.f (k + 1) a0) := by
  intro a0 k
  obtain ⟨ih0, ih1, ih2, ih3, ih4, ih5⟩ := scrimref08_number.mono_l k
  exact ih0 a0
set_option maxHeartbeats 8000000 in
set_option maxRecDepth 100000 in
theorem scrimref08_number.calls (k : Nat) : ∀ (a0 : ByteArray) (r1 : Int) (r2 : Bool) (w : World) (h : scrimref08_number.f k a0 = some (r1, r2)),
    Calls Tryz.prog 42 #[.string a0] w fun e w' => e = .returned (.tuple #[.int .i64 r1, .bool r2]) ∧ Drawn0 w w' := by
  induction k using Nat.strongRecOn with
  | _ k ih =>
  intro a0 r1 r2 w h
  cases k with
  | zero => exact absurd h (by simp [scrimref08_number.f])
  | succ k =>
  simp only [scrimref08_number.f] at h
  have H : (if a0.toList = ([] : List UInt8) then (scrimref08_number.j0 k a0 false) else (if 0 < (a0.size : Int) then (scrimref08_number.j0 k a0 ((bt a0 0) == 45)) else (none))) = some (r1, r2) := h
  clear h
  have HC2 := Aside0.mk H
  clear H
  go_enter Tryz.func42, Tryz.ntmps42
  go_upto_region 1 with (fail)
  repeat (go_quiet (fail); go_upto_region 1 with (fail))
  go_cut [18] (fun v18 wc => ∃ (kq : Nat) (x18_1 : Bool), v18 = .bool x18_1 ∧ Aside0 (scrimref08_number.j0 kq a0 x18_1 = some (r1, r2)) ∧ Aside0 (kq ≤ k) ∧ Drawn0 w wc)
  case first =>
    have H := HC2.out
    clear HC2
    by_cases c3 : a0.toList = ([] : List UInt8)
    · rw [if_pos c3] at H
      have c3b0 : (a0.toList == ([] : List UInt8)) = true := beq_iff_eq.mpr c3
      have c3e : a0.toList.isEmpty = true := by rw [List.isEmpty_iff]; exact c3
      have c3b1 : (a0.toList != ([] : List UInt8)) = false := bne_eq_false_iff_eq.mpr c3
      clear c3
      (first | rw [c3b0] | (simp only [i64_w, i32_w]; rw [c3b0]) | skip)
      have H' := Aside0.mk H
      clear H
      go_wp2
      repeat (go_quiet (fail); try go_wp2)
      go_meet
      case rel => exact ⟨_, (false), (by first | rfl | (simp; done) | (simp [*]; done)), H', ⟨by first | omega | exact Nat.le_refl _⟩, by repeat (first | exact Drawn0.refl _ | apply Drawn0.step)⟩
    · rw [if_neg c3] at H
      have c3b0 : (a0.toList == ([] : List UInt8)) = false := beq_eq_false_iff_ne.mpr c3
      have c3e : a0.toList.isEmpty = false := by rw [Bool.eq_false_iff, Ne, List.isEmpty_iff]; exact c3
      have c3b1 : (a0.toList != ([] : List UInt8)) = true := bne_iff_ne.mpr c3
      (first | rw [c3b0] | (simp only [i64_w, i32_w]; rw [c3b0]) | skip)
      by_cases c4 : 0 < (a0.size : Int)
      · rw [if_pos c4] at H
        have c4b0 : decide (0 < (a0.size : Int)) = true := decide_eq_true c4
        have c4b1 : decide (0 < a0.size) = true := decide_eq_true (by omega)
        clear c4
        have H' := Aside0.mk H
        clear H
        have p5 : 0 ≤ (0 : Int) := (by omega)
        have q5 : 0 < a0.size := (by have : (0 : Int) < (a0.size : Int) := of_decide_eq_true (by first | (with_reducible assumption) | assumption); omega)
        have hx5 : ∀ h : 0 < a0.size, ((a0[0]'h).toNat : Int) = bt a0 0 := bt_at a0 0
        clear p5
        have qi5 : (0 < (a0.size : Int)) = True := eq_true (of_decide_eq_true (by first | (with_reducible assumption) | assumption))
        replace q5 := eq_true q5
        go_wp2
        repeat (go_quiet (fail); try go_wp2)
        go_meet
        case rel => exact ⟨_, (((bt a0 0) == 45)), (by first | rfl | (simp; done) | (simp [*]; done)), H', ⟨by first | omega | exact Nat.le_refl _⟩, by repeat (first | exact Drawn0.refl _ | apply Drawn0.step)⟩
      · rw [if_neg c4] at H
        exact absurd H (by simp)
  case rest =>
    clear HC2
    try clear p2
    try clear c3
    try clear c3b0
    try clear c3b1
    try clear c4
    try clear c4b0
    try clear c4b1
    try clear p5
    try clear q5
    try clear hx5
    try clear qi5
    try clear p5
    try clear q5
    obtain ⟨kq, x18_1, rfl, HA, HJ1, ⟨mc1, rfl⟩⟩ := hcut
    cases kq with
    | zero => exact absurd HA.out (by simp [scrimref08_number.j0])
    | succ kj1 =>
      have H := HA.out
      clear HA
      simp only [scrimref08_number.j0] at H
      by_cases c6 : x18_1 = true
      · subst c6
        have H1 : (if 1 ≤ (a0.size : Int) then ((scrimref08_number.f kj1 (a0.extract 1 a0.size)).bind fun bt175 => (if bt175.2 = true then (if 1 < (a0.size : Int) then (some (wrap64 (-bt175.1), ((bt a0 1) != 45))) else (none)) else (some (wrap64 (-bt175.1), false)))) else (none)) = some (r1, r2) := by rw [if_pos rfl] at H; exact H
        clear H
        have H := H1
        clear H1
        by_cases c7 : 1 ≤ (a0.size : Int)
        · rw [if_pos c7] at H
          have c7b0 := eq_true c7
          have c7b1 : decide (1 ≤ (a0.size : Int)) = true := decide_eq_true c7
          clear c7
          replace H := Option.bind_eq_some_iff.mp H
          obtain ⟨⟨t175, t176⟩, A80, H⟩ := H
          replace H : (if t176 = true then (if 1 < (a0.size : Int) then (some (wrap64 (-t175), ((bt a0 1) != 45))) else (none)) else (some (wrap64 (-t175), false))) = some (r1, r2) := H
          have A8 := Aside0.mk A80
          clear A80
          by_cases c9 : t176 = true
          · subst c9
            have H1 : (if 1 < (a0.size : Int) then (some (wrap64 (-t175), ((bt a0 1) != 45))) else (none)) = some (r1, r2) := by rw [if_pos rfl] at H; exact H
            clear H
            have H := H1
            clear H1
            by_cases c10 : 1 < (a0.size : Int)
            · rw [if_pos c10] at H
              have c10b0 : decide (1 < (a0.size : Int)) = true := decide_eq_true c10
              have c10b1 : decide (1 < a0.size) = true := decide_eq_true (by omega)
              clear c10
              simp only [Option.some.injEq, Prod.mk.injEq] at H
              obtain ⟨rfl, rfl⟩ := H
              go_wp2_with (first | (go_at_call 42; (with_reducible refine (ih kj1 (by have := HJ1.out; omega) (a0.extract 1 a0.size) t175 true _ A8.out).mono ?_); rintro e w' ⟨rfl, ⟨nd, rfl⟩⟩; (try first | exact ⟨rfl, _, World.drewN_drewN _ _ _⟩ | exact ⟨rfl, _, Eq.trans (World.drewN_drewN _ _ _) (congrArg (World.drewN _) (Nat.add_assoc _ _ _))⟩); have p11 : 0 ≤ (1 : Int) := (by omega); have q11 : 1 < a0.size := (by have : (1 : Int) < (a0.size : Int) := of_decide_eq_true (by first | (with_reducible assumption) | assumption); omega); have hx11 : ∀ h : 1 < a0.size, ((a0[1]'h).toNat : Int) = bt a0 1 := bt_at a0 1; clear p11; have qi11 : (1 < (a0.size : Int)) = True := eq_true (of_decide_eq_true (by first | (with_reducible assumption) | assumption)); replace q11 := eq_true q11))
              repeat (go_quiet (first | (go_at_call 42; (with_reducible refine (ih kj1 (by have := HJ1.out; omega) (a0.extract 1 a0.size) t175 true _ A8.out).mono ?_); rintro e w' ⟨rfl, ⟨nd, rfl⟩⟩; (try first | exact ⟨rfl, _, World.drewN_drewN _ _ _⟩ | exact ⟨rfl, _, Eq.trans (World.drewN_drewN _ _ _) (congrArg (World.drewN _) (Nat.add_assoc _ _ _))⟩); have p11 : 0 ≤ (1 : Int) := (by omega); have q11 : 1 < a0.size := (by have : (1 : Int) < (a0.size : Int) := of_decide_eq_true (by first | (with_reducible assumption) | assumption); omega); have hx11 : ∀ h : 1 < a0.size, ((a0[1]'h).toNat : Int) = bt a0 1 := bt_at a0 1; clear p11; have qi11 : (1 < (a0.size : Int)) = True := eq_true (of_decide_eq_true (by first | (with_reducible assumption) | assumption)); replace q11 := eq_true q11)); try go_wp2_with (first | (go_at_call 42; (with_reducible refine (ih kj1 (by have := HJ1.out; omega) (a0.extract 1 a0.size) t175 true _ A8.out).mono ?_); rintro e w' ⟨rfl, ⟨nd, rfl⟩⟩; (try first | exact ⟨rfl, _, World.drewN_drewN _ _ _⟩ | exact ⟨rfl, _, Eq.trans (World.drewN_drewN _ _ _) (congrArg (World.drewN _) (Nat.add_assoc _ _ _))⟩); have p11 : 0 ≤ (1 : Int) := (by omega); have q11 : 1 < a0.size := (by have : (1 : Int) < (a0.size : Int) := of_decide_eq_true (by first | (with_reducible assumption) | assumption); omega); have hx11 : ∀ h : 1 < a0.size, ((a0[1]'h).toNat : Int) = bt a0 1 := bt_at a0 1; clear p11; have qi11 : (1 < (a0.size : Int)) = True := eq_true (of_decide_eq_true (by first | (with_reducible assumption) | assumption)); replace q11 := eq_true q11)))
              go_ret2
              exact ⟨by first | rfl | (simp; done) | (simp [*]; done), by repeat (first | exact Drawn0.refl _ | apply Drawn0.step)⟩
            · rw [if_neg c10] at H
              exact absurd H (by simp)
          · replace c9 := Bool.eq_false_iff.mpr c9
            subst c9
            have H1 : (some (wrap64 (-t175), false)) = some (r1, r2) := by rw [if_neg (show ¬ (false = true) by decide)] at H; exact H
            clear H
            have H := H1
            clear H1
            simp only [Option.some.injEq, Prod.mk.injEq] at H
            obtain ⟨rfl, rfl⟩ := H
            go_wp2_with (first | (go_at_call 42; (with_reducible refine (ih kj1 (by have := HJ1.out; omega) (a0.extract 1 a0.size) t175 false _ A8.out).mono ?_); rintro e w' ⟨rfl, ⟨nd, rfl⟩⟩; (try first | exact ⟨rfl, _, World.drewN_drewN _ _ _⟩ | exact ⟨rfl, _, Eq.trans (World.drewN_drewN _ _ _) (congrArg (World.drewN _) (Nat.add_assoc _ _ _))⟩)))
            repeat (go_quiet (first | (go_at_call 42; (with_reducible refine (ih kj1 (by have := HJ1.out; omega) (a0.extract 1 a0.size) t175 false _ A8.out).mono ?_); rintro e w' ⟨rfl, ⟨nd, rfl⟩⟩; (try first | exact ⟨rfl, _, World.drewN_drewN _ _ _⟩ | exact ⟨rfl, _, Eq.trans (World.drewN_drewN _ _ _) (congrArg (World.drewN _) (Nat.add_assoc _ _ _))⟩))); try go_wp2_with (first | (go_at_call 42; (with_reducible refine (ih kj1 (by have := HJ1.out; omega) (a0.extract 1 a0.size) t175 false _ A8.out).mono ?_); rintro e w' ⟨rfl, ⟨nd, rfl⟩⟩; (try first | exact ⟨rfl, _, World.drewN_drewN _ _ _⟩ | exact ⟨rfl, _, Eq.trans (World.drewN_drewN _ _ _) (congrArg (World.drewN _) (Nat.add_assoc _ _ _))⟩))))
            go_ret2
            exact ⟨by first | rfl | (simp; done) | (simp [*]; done), by repeat (first | exact Drawn0.refl _ | apply Drawn0.step)⟩
        · rw [if_neg c7] at H
          exact absurd H (by simp)
      · replace c6 := Bool.eq_false_iff.mpr c6
        subst c6
        have H1 : (scrimref08_number.l0 kj1 a0 (a0.size : Int) (wrap64 ((a0.size : Int) - 1))) = some (r1, r2) := by rw [if_neg (show ¬ (false = true) by decide)] at H; exact H
        clear H
        have H := H1
        clear H1
        have H' := Aside0.mk H
        clear H
        go_wp2
        repeat (go_quiet (fail); try go_wp2)
        go_loopg [6, 7] kj1 (fun kq v6 v7 w' => ∃ (x6_2 : Int) (x7_2 : Int), v6 = .int .i64 x6_2 ∧ v7 = .int .i64 x7_2 ∧ Aside0 (scrimref08_number.l0 kq a0 x6_2 x7_2 = some (r1, r2)) ∧ Aside0 (kq ≤ kj1) ∧ Drawn0 w w')
        case atStart => exact ⟨((a0.size : Int)), (wrap64 ((a0.size : Int) - 1)), (by first | rfl | (simp; done) | (simp [*]; done)), (by first | rfl | (simp; done) | (simp [*]; done)), H', ⟨Nat.le_refl _⟩, by repeat (first | exact Drawn0.refl _ | apply Drawn0.step)⟩
        case round =>
          clear H'
          try clear c1
          try clear p1
          try clear q1
          try clear hx1
          try clear qi1
          try clear p2
          try clear c3
          try clear c3b0
          try clear c3b1
          try clear c4
          try clear c4b0
          try clear c4b1
          try clear p5
          try clear q5
          try clear hx5
          try clear qi5
          try clear c6
          try clear p6
          try clear c7
          try clear c7b0
          try clear c7b1
          try clear c9
          try clear c10
          try clear c10b0
          try clear c10b1
          try clear p11
          try clear q11
          try clear hx11
          try clear qi11
          try clear p11
          try clear p2
          try clear p5
          try clear q11
          try clear q5
          obtain ⟨x6_2, x7_2, rfl, rfl, HA, HK2, ⟨m2, rfl⟩⟩ := hrel
          cases gk with
          | zero => exact absurd HA.out (by simp [scrimref08_number.l0])
          | succ k2 =>
            have H := HA.out
            clear HA
            simp only [scrimref08_number.l0] at H
            by_cases c12 : x7_2 ≥ 0
            · rw [if_pos c12] at H
              have c12b0 : decide (0 ≤ x7_2) = true := decide_eq_true c12
              clear c12
              by_cases c13 : 0 ≤ x7_2
              · rw [if_pos c13] at H
                have c13b0 : decide (0 ≤ x7_2) = true := decide_eq_true c13
                clear c13
                by_cases c14 : x7_2 < (a0.size : Int)
                · rw [if_pos c14] at H
                  have c14b0 : decide (x7_2 < (a0.size : Int)) = true := decide_eq_true c14
                  clear c14
                  by_cases c16 : (bt a0 x7_2) = 46
                  · rw [if_pos c16] at H
                    have c16b0 : ((bt a0 x7_2) == 46) = true := beq_iff_eq.mpr c16
                    have c16b1 : ((bt a0 x7_2) != 46) = false := bne_eq_false_iff_eq.mpr c16
                    clear c16
                    have H' := Aside0.mk H
                    clear H
                    have p15 : 0 ≤ (x7_2 : Int) := of_decide_eq_true (by first | (with_reducible assumption) | assumption)
                    have q15 : x7_2 < (a0.size : Int) := of_decide_eq_true (by first | (with_reducible assumption) | assumption)
                    have hx15 := bt_at a0 x7_2
                    replace p15 := eq_true p15
                    replace q15 := eq_true q15
                    go_wp2
                    repeat (go_quiet (fail); try go_wp2)
                    go_roundg k2
                    case measure => have := HJ1.out; have := HK2.out; omega
                    case rel => exact ⟨(x7_2), (wrap64 (x7_2 - 1)), (by first | rfl | (simp; done) | (simp [*]; done)), (by first | rfl | (simp; done) | (simp [*]; done)), H', ⟨by have := HJ1.out; have := HK2.out; omega⟩, by repeat (first | exact Drawn0.refl _ | apply Drawn0.step)⟩
                  · rw [if_neg c16] at H
                    have c16b0 : ((bt a0 x7_2) == 46) = false := beq_eq_false_iff_ne.mpr c16
                    have c16b1 : ((bt a0 x7_2) != 46) = true := bne_iff_ne.mpr c16
                    have H' := Aside0.mk H
                    clear H
                    have p15 : 0 ≤ (x7_2 : Int) := of_decide_eq_true (by first | (with_reducible assumption) | assumption)
                    have q15 : x7_2 < (a0.size : Int) := of_decide_eq_true (by first | (with_reducible assumption) | assumption)
                    have hx15 := bt_at a0 x7_2
                    replace p15 := eq_true p15
                    replace q15 := eq_true q15
                    go_wp2
                    repeat (go_quiet (fail); try go_wp2)
                    go_roundg k2
                    case measure => have := HJ1.out; have := HK2.out; omega
                    case rel => exact ⟨(x6_2), (wrap64 (x7_2 - 1)), (by first | rfl | (simp; done) | (simp [*]; done)), (by first | rfl | (simp; done) | (simp [*]; done)), H', ⟨by have := HJ1.out; have := HK2.out; omega⟩, by repeat (first | exact Drawn0.refl _ | apply Drawn0.step)⟩
                · rw [if_neg c14] at H
                  exact absurd H (by simp)
              · rw [if_neg c13] at H
                exact absurd H (by simp)
            · rw [if_neg c12] at H
              have c12b0 : decide (0 ≤ x7_2) = false := decide_eq_false c12
              clear c12
              by_cases c17 : 0 ≤ x6_2
              · rw [if_pos c17] at H
                have c17b0 := eq_true c17
                have c17b1 : decide (0 ≤ x6_2) = true := decide_eq_true c17
                clear c17
                by_cases c18 : x6_2 ≤ (a0.size : Int)
                · rw [if_pos c18] at H
                  have c18b0 := eq_true c18
                  have c18b1 : decide (x6_2 ≤ (a0.size : Int)) = true := decide_eq_true c18
                  clear c18
                  have HC19 := Aside0.mk H
                  clear H
                  go_upto_if 53 with (fail)
                  repeat (go_quiet (fail); go_upto_if 53 with (fail))
                  go_cut [9] (fun v9 wc => ∃ (kq : Nat) (x9_18 : ByteArray), v9 = .string x9_18 ∧ Aside0 (scrimref08_number.j2 kq (a0.extract 0 (x6_2 : Int).toNat) x9_18 = some (r1, r2)) ∧ Aside0 (kq ≤ k2) ∧ Drawn0 w wc)
                  case first =>
                    have H := HC19.out
                    clear HC19
                    by_cases c20 : x6_2 < (a0.size : Int)
                    · rw [if_pos c20] at H
                      have c20b0 : decide (x6_2 < (a0.size : Int)) = true := decide_eq_true c20
                      clear c20
                      (first | rw [c20b0] | (simp only [i64_w, i32_w]; rw [c20b0]) | skip)
                      obtain ⟨ji21, hji21⟩ : ∃ j_ : Int, (wrap64 (x6_2 + 1)) = j_ := ⟨_, rfl⟩
                      replace H : (if 0 ≤ (ji21) then (if (ji21) ≤ (a0.size : Int) then (scrimref08_number.j2 k2 (a0.extract 0 (x6_2 : Int).toNat) (a0.extract ((ji21) : Int).toNat a0.size)) else (none)) else (none)) = some (r1, r2) := by first | (rw [hji21] at H; exact H) | (simp only [hji21] at H ⊢; exact H)
                      have hji21w : (IntKind.i64.wrap (x6_2 + 1)) = ji21 := (i64_w _).trans hji21
                      by_cases c22 : 0 ≤ (ji21)
                      · rw [if_pos c22] at H
                        have c22b0 := eq_true c22
                        have c22b1 : decide (0 ≤ (ji21)) = true := decide_eq_true c22
                        clear c22
                        by_cases c23 : (ji21) ≤ (a0.size : Int)
                        · rw [if_pos c23] at H
                          have c23b0 := eq_true c23
                          have c23b1 : decide ((ji21) ≤ (a0.size : Int)) = true := decide_eq_true c23
                          clear c23
                          have H' := Aside0.mk H
                          clear H
                          go_wp2
                          repeat (go_quiet (fail); try go_wp2)
                          go_meet
                          case rel => exact ⟨_, (a0.extract ((ji21) : Int).toNat a0.size), (by first | rfl | (simp; done) | (simp only [← hji21] <;> (first | rfl | simp)) | (simp [*]; done)), H', ⟨by have := HJ1.out; have := HK2.out; first | omega | exact Nat.le_refl _⟩, by repeat (first | exact Drawn0.refl _ | apply Drawn0.step)⟩
                        · rw [if_neg c23] at H
                          exact absurd H (by simp)
                      · rw [if_neg c22] at H
                        exact absurd H (by simp)
                    · rw [if_neg c20] at H
                      have c20b0 : decide (x6_2 < (a0.size : Int)) = false := decide_eq_false c20
                      clear c20
                      (first | rw [c20b0] | (simp only [i64_w, i32_w]; rw [c20b0]) | skip)
                      have H' := Aside0.mk H
                      clear H
                      go_wp2
                      repeat (go_quiet (fail); try go_wp2)
                      go_meet
                      case rel => exact ⟨_, ((⟨#[48]⟩ : ByteArray)), (by first | rfl | (simp; done) | (simp [*]; done)), H', ⟨by have := HJ1.out; have := HK2.out; first | omega | exact Nat.le_refl _⟩, by repeat (first | exact Drawn0.refl _ | apply Drawn0.step)⟩
                  case rest =>
                    clear HC19
                    try clear c1
                    try clear p1
                    try clear q1
                    try clear hx1
                    try clear qi1
                    try clear c2
                    try clear p2
                    try clear c3
                    try clear c3b0
                    try clear c3b1
                    try clear c4
                    try clear c4b0
                    try clear c4b1
                    try clear p5
                    try clear q5
                    try clear hx5
                    try clear qi5
                    try clear c6
                    try clear p6
                    try clear c7
                    try clear c7b0
                    try clear c7b1
                    try clear c9
                    try clear c10
                    try clear c10b0
                    try clear c10b1
                    try clear p11
                    try clear q11
                    try clear hx11
                    try clear qi11
                    try clear c12
                    try clear c12b0
                    try clear c13
                    try clear c13b0
                    try clear c14
                    try clear c14b0
                    try clear p15
                    try clear q15
                    try clear hx15
                    try clear c16
                    try clear c16b0
                    try clear c16b1
                    try clear c17
                    try clear c17b0
                    try clear c17b1
                    try clear c18
                    try clear c18b0
                    try clear c18b1
                    try clear c20
                    try clear c20b0
                    try clear c22
                    try clear c22b0
                    try clear c22b1
                    try clear c23
                    try clear c23b0
                    try clear c23b1
                    try clear p1
                    try clear p11
                    try clear p15
                    try clear p2
                    try clear p5
                    try clear p6
                    try clear q1
                    try clear q11
                    try clear q15
                    try clear q5
                    obtain ⟨kq, x9_18, rfl, HA, HJ18, ⟨mc18, rfl⟩⟩ := hcut
                    cases kq with
                    | zero => exact absurd HA.out (by simp [scrimref08_number.j2])
                    | succ kj18 =>
                      have H := HA.out
                      clear HA
                      simp only [scrimref08_number.j2] at H
                      have HC24 := Aside0.mk H
                      clear H
                      go_upto_region 14 with (fail)
                      repeat (go_quiet (fail); go_upto_region 14 with (fail))
                      go_cut [83] (fun v83 wc => ∃ (kq : Nat) (x83_23 : Bool), v83 = .bool x83_23 ∧ Aside0 (scrimref08_number.j3 kq (a0.extract 0 (x6_2 : Int).toNat) x9_18 x83_23 = some (r1, r2)) ∧ Aside0 (kq ≤ kj18) ∧ Drawn0 w wc)
                      case first =>
                        have H := HC24.out
                        clear HC24
                        by_cases c25 : (a0.extract 0 (x6_2 : Int).toNat).toList = ([] : List UInt8)
                        · rw [if_pos c25] at H
                          have c25b0 : ((a0.extract 0 (x6_2 : Int).toNat).toList == ([] : List UInt8)) = true := beq_iff_eq.mpr c25
                          have c25e : (a0.extract 0 (x6_2 : Int).toNat).toList.isEmpty = true := by rw [List.isEmpty_iff]; exact c25
                          have c25b1 : ((a0.extract 0 (x6_2 : Int).toNat).toList != ([] : List UInt8)) = false := bne_eq_false_iff_eq.mpr c25
                          clear c25
                          (first | rw [c25b0] | (simp only [i64_w, i32_w]; rw [c25b0]) | skip)
                          have H' := Aside0.mk H
                          clear H
                          go_wp2
                          repeat (go_quiet (fail); try go_wp2)
                          go_meet
                          case rel => exact ⟨_, (true), (by first | rfl | (simp; done) | (simp [*]; done)), H', ⟨by have := HJ1.out; have := HK2.out; have := HJ18.out; first | omega | exact Nat.le_refl _⟩, by repeat (first | exact Drawn0.refl _ | apply Drawn0.step)⟩
                        · rw [if_neg c25] at H
                          have c25b0 : ((a0.extract 0 (x6_2 : Int).toNat).toList == ([] : List UInt8)) = false := beq_eq_false_iff_ne.mpr c25
                          have c25e : (a0.extract 0 (x6_2 : Int).toNat).toList.isEmpty = false := by rw [Bool.eq_false_iff, Ne, List.isEmpty_iff]; exact c25
                          have c25b1 : ((a0.extract 0 (x6_2 : Int).toNat).toList != ([] : List UInt8)) = true := bne_iff_ne.mpr c25
                          (first | rw [c25b0] | (simp only [i64_w, i32_w]; rw [c25b0]) | skip)
                          by_cases c26 : x9_18.toList = ([] : List UInt8)
                          · rw [if_pos c26] at H
                            have c26b0 : (x9_18.toList == ([] : List UInt8)) = true := beq_iff_eq.mpr c26
                            have c26e : x9_18.toList.isEmpty = true := by rw [List.isEmpty_iff]; exact c26
                            have c26b1 : (x9_18.toList != ([] : List UInt8)) = false := bne_eq_false_iff_eq.mpr c26
                            clear c26
                            have H' := Aside0.mk H
                            clear H
                            go_wp2
                            repeat (go_quiet (fail); try go_wp2)
                            go_meet
                            case rel => exact ⟨_, (true), (by first | rfl | (simp; done) | (simp [*]; done)), H', ⟨by have := HJ1.out; have := HK2.out; have := HJ18.out; first | omega | exact Nat.le_refl _⟩, by repeat (first | exact Drawn0.refl _ | apply Drawn0.step)⟩
                          · rw [if_neg c26] at H
                            have c26b0 : (x9_18.toList == ([] : List UInt8)) = false := beq_eq_false_iff_ne.mpr c26
                            have c26e : x9_18.toList.isEmpty = false := by rw [Bool.eq_false_iff, Ne, List.isEmpty_iff]; exact c26
                            have c26b1 : (x9_18.toList != ([] : List UInt8)) = true := bne_iff_ne.mpr c26
                            by_cases c27 : ((a0.extract 0 (x6_2 : Int).toNat).size : Int) > 9
                            · rw [if_pos c27] at H
                              have c27b0 : decide (9 < ((a0.extract 0 (x6_2 : Int).toNat).size : Int)) = true := decide_eq_true c27
                              (try (have c27e : decide (9 < x6_2) = true := decide_eq_true (by have q := c27; rw [ByteArray.size_extract] at q; omega)))
                              (try (have c27f : decide (9 < (x6_2.toNat : Int)) = true := decide_eq_true (by have q := c27; rw [ByteArray.size_extract] at q; omega)))
                              (try (have c27g : decide (9 < x6_2.toNat) = true := decide_eq_true (by have q := c27; rw [ByteArray.size_extract] at q; omega)))
                              (try (have c27h : decide (9 < ((min x6_2.toNat a0.size : Nat) : Int)) = true := decide_eq_true (by have q := c27; rw [ByteArray.size_extract] at q; omega)))
                              have c27b1 : decide (9 < (a0.extract 0 (x6_2 : Int).toNat).size) = true := decide_eq_true (by omega)
                              clear c27
                              have H' := Aside0.mk H
                              clear H
                              go_wp2
                              repeat (go_quiet (fail); try go_wp2)
                              go_meet
                              case rel => exact ⟨_, (true), (by first | rfl | (simp; done) | (simp [*]; done)), H', ⟨by have := HJ1.out; have := HK2.out; have := HJ18.out; first | omega | exact Nat.le_refl _⟩, by repeat (first | exact Drawn0.refl _ | apply Drawn0.step)⟩
                            · rw [if_neg c27] at H
                              have c27b0 : decide (9 < ((a0.extract 0 (x6_2 : Int).toNat).size : Int)) = false := decide_eq_false c27
                              (try (have c27e : decide (9 < x6_2) = false := decide_eq_false (by have q := c27; rw [ByteArray.size_extract] at q; omega)))
                              (try (have c27f : decide (9 < (x6_2.toNat : Int)) = false := decide_eq_false (by have q := c27; rw [ByteArray.size_extract] at q; omega)))
                              (try (have c27g : decide (9 < x6_2.toNat) = false := decide_eq_false (by have q := c27; rw [ByteArray.size_extract] at q; omega)))
                              (try (have c27h : decide (9 < ((min x6_2.toNat a0.size : Nat) : Int)) = false := decide_eq_false (by have q := c27; rw [ByteArray.size_extract] at q; omega)))
                              have c27b1 : decide (9 < (a0.extract 0 (x6_2 : Int).toNat).size) = false := decide_eq_false (by omega)
                              clear c27
                              by_cases c28 : (x9_18.size : Int) > 6
                              · rw [if_pos c28] at H
                                have c28b0 : decide (6 < (x9_18.size : Int)) = true := decide_eq_true c28
                                have c28b1 : decide (6 < x9_18.size) = true := decide_eq_true (by omega)
                                clear c28
                                have H' := Aside0.mk H
                                clear H
                                go_wp2
                                repeat (go_quiet (fail); try go_wp2)
                                go_meet
                                case rel => exact ⟨_, (true), (by first | rfl | (simp; done) | (simp [*]; done)), H', ⟨by have := HJ1.out; have := HK2.out; have := HJ18.out; first | omega | exact Nat.le_refl _⟩, by repeat (first | exact Drawn0.refl _ | apply Drawn0.step)⟩
                              · rw [if_neg c28] at H
                                have c28b0 : decide (6 < (x9_18.size : Int)) = false := decide_eq_false c28
                                have c28b1 : decide (6 < x9_18.size) = false := decide_eq_false (by omega)
                                clear c28
                                replace H := Option.bind_eq_some_iff.mp H
                                obtain ⟨t177, A290, H⟩ := H
                                replace H : (if t177 < 0 then (scrimref08_number.j3 kj18 (a0.extract 0 (x6_2 : Int).toNat) x9_18 true) else ((scrimref08_digits.f kj18 x9_18).bind fun t178 => (scrimref08_number.j3 kj18 (a0.extract 0 (x6_2 : Int).toNat) x9_18 (decide (t178 < 0))))) = some (r1, r2) := H
                                have A29 := Aside0.mk A290
                                clear A290
                                by_cases c30 : t177 < 0
                                · rw [if_pos c30] at H
                                  have c30b0 : decide (t177 < 0) = true := decide_eq_true c30
                                  clear c30
                                  have H' := Aside0.mk H
                                  clear H
                                  go_wp2_with (first | (go_at_call 61; (with_reducible refine (scrimref08_digits.calls kj18 (a0.extract 0 (x6_2 : Int).toNat) t177 _ A29.out).mono ?_); rintro e w' ⟨rfl, ⟨nd, rfl⟩⟩; (try first | exact ⟨rfl, _, World.drewN_drewN _ _ _⟩ | exact ⟨rfl, _, Eq.trans (World.drewN_drewN _ _ _) (congrArg (World.drewN _) (Nat.add_assoc _ _ _))⟩)))
                                  repeat (go_quiet (first | (go_at_call 61; (with_reducible refine (scrimref08_digits.calls kj18 (a0.extract 0 (x6_2 : Int).toNat) t177 _ A29.out).mono ?_); rintro e w' ⟨rfl, ⟨nd, rfl⟩⟩; (try first | exact ⟨rfl, _, World.drewN_drewN _ _ _⟩ | exact ⟨rfl, _, Eq.trans (World.drewN_drewN _ _ _) (congrArg (World.drewN _) (Nat.add_assoc _ _ _))⟩))); try go_wp2_with (first | (go_at_call 61; (with_reducible refine (scrimref08_digits.calls kj18 (a0.extract 0 (x6_2 : Int).toNat) t177 _ A29.out).mono ?_); rintro e w' ⟨rfl, ⟨nd, rfl⟩⟩; (try first | exact ⟨rfl, _, World.drewN_drewN _ _ _⟩ | exact ⟨rfl, _, Eq.trans (World.drewN_drewN _ _ _) (congrArg (World.drewN _) (Nat.add_assoc _ _ _))⟩))))
                                  go_meet
                                  case rel => exact ⟨_, (true), (by first | rfl | (simp; done) | (simp [*]; done)), H', ⟨by have := HJ1.out; have := HK2.out; have := HJ18.out; first | omega | exact Nat.le_refl _⟩, by repeat (first | exact Drawn0.refl _ | apply Drawn0.step)⟩
                                · rw [if_neg c30] at H
                                  have c30b0 : decide (t177 < 0) = false := decide_eq_false c30
                                  clear c30
                                  replace H := Option.bind_eq_some_iff.mp H
                                  obtain ⟨t178, A310, H⟩ := H
                                  replace H : (scrimref08_number.j3 kj18 (a0.extract 0 (x6_2 : Int).toNat) x9_18 (decide (t178 < 0))) = some (r1, r2) := H
                                  have A31 := Aside0.mk A310
                                  clear A310
                                  have H' := Aside0.mk H
                                  clear H
                                  go_wp2_with (first | (go_at_call 61; (with_reducible refine (scrimref08_digits.calls kj18 (a0.extract 0 (x6_2 : Int).toNat) t177 _ A29.out).mono ?_); rintro e w' ⟨rfl, ⟨nd, rfl⟩⟩; (try first | exact ⟨rfl, _, World.drewN_drewN _ _ _⟩ | exact ⟨rfl, _, Eq.trans (World.drewN_drewN _ _ _) (congrArg (World.drewN _) (Nat.add_assoc _ _ _))⟩)) | (go_at_call 61; (with_reducible refine (scrimref08_digits.calls kj18 x9_18 t178 _ A31.out).mono ?_); rintro e w' ⟨rfl, ⟨nd, rfl⟩⟩; (try first | exact ⟨rfl, _, World.drewN_drewN _ _ _⟩ | exact ⟨rfl, _, Eq.trans (World.drewN_drewN _ _ _) (congrArg (World.drewN _) (Nat.add_assoc _ _ _))⟩)))
                                  repeat (go_quiet (first | (go_at_call 61; (with_reducible refine (scrimref08_digits.calls kj18 (a0.extract 0 (x6_2 : Int).toNat) t177 _ A29.out).mono ?_); rintro e w' ⟨rfl, ⟨nd, rfl⟩⟩; (try first | exact ⟨rfl, _, World.drewN_drewN _ _ _⟩ | exact ⟨rfl, _, Eq.trans (World.drewN_drewN _ _ _) (congrArg (World.drewN _) (Nat.add_assoc _ _ _))⟩)) | (go_at_call 61; (with_reducible refine (scrimref08_digits.calls kj18 x9_18 t178 _ A31.out).mono ?_); rintro e w' ⟨rfl, ⟨nd, rfl⟩⟩; (try first | exact ⟨rfl, _, World.drewN_drewN _ _ _⟩ | exact ⟨rfl, _, Eq.trans (World.drewN_drewN _ _ _) (congrArg (World.drewN _) (Nat.add_assoc _ _ _))⟩))); try go_wp2_with (first | (go_at_call 61; (with_reducible refine (scrimref08_digits.calls kj18 (a0.extract 0 (x6_2 : Int).toNat) t177 _ A29.out).mono ?_); rintro e w' ⟨rfl, ⟨nd, rfl⟩⟩; (try first | exact ⟨rfl, _, World.drewN_drewN _ _ _⟩ | exact ⟨rfl, _, Eq.trans (World.drewN_drewN _ _ _) (congrArg (World.drewN _) (Nat.add_assoc _ _ _))⟩)) | (go_at_call 61; (with_reducible refine (scrimref08_digits.calls kj18 x9_18 t178 _ A31.out).mono ?_); rintro e w' ⟨rfl, ⟨nd, rfl⟩⟩; (try first | exact ⟨rfl, _, World.drewN_drewN _ _ _⟩ | exact ⟨rfl, _, Eq.trans (World.drewN_drewN _ _ _) (congrArg (World.drewN _) (Nat.add_assoc _ _ _))⟩))))
                                  go_meet
                                  case rel => exact ⟨_, (decide (t178 < 0)), (by first | rfl | (simp; done) | (simp [*]; done)), H', ⟨by have := HJ1.out; have := HK2.out; have := HJ18.out; first | omega | exact Nat.le_refl _⟩, by repeat (first | exact Drawn0.refl _ | apply Drawn0.step)⟩
                      case rest =>
                        clear HC24
                        try clear c1
                        try clear p1
                        try clear q1
                        try clear hx1
                        try clear qi1
                        try clear c2
                        try clear p2
                        try clear c3
                        try clear c3b0
                        try clear c3b1
                        try clear c4
                        try clear c4b0
                        try clear c4b1
                        try clear p5
                        try clear q5
                        try clear hx5
                        try clear qi5
                        try clear c6
                        try clear p6
                        try clear c7
                        try clear c7b0
                        try clear c7b1
                        try clear c9
                        try clear c10
                        try clear c10b0
                        try clear c10b1
                        try clear p11
                        try clear q11
                        try clear hx11
                        try clear qi11
                        try clear c12
                        try clear c12b0
                        try clear c13
                        try clear c13b0
                        try clear c14
                        try clear c14b0
                        try clear p15
                        try clear q15
                        try clear hx15
                        try clear c16
                        try clear c16b0
                        try clear c16b1
                        try clear c17
                        try clear c17b0
                        try clear c17b1
                        try clear c18
                        try clear c18b0
                        try clear c18b1
                        try clear c20
                        try clear c20b0
                        try clear c22
                        try clear c22b0
                        try clear c22b1
                        try clear c23
                        try clear c23b0
                        try clear c23b1
                        try clear c25
                        try clear c25b0
                        try clear c25b1
                        try clear c26
                        try clear c26b0
                        try clear c26b1
                        try clear c27
                        try clear c27b0
                        try clear c27b1
                        try clear c28
                        try clear c28b0
                        try clear c28b1
                        try clear c30
                        try clear c30b0
                        try clear p1
                        try clear p11
                        try clear p15
                        try clear p2
                        try clear p5
                        try clear p6
                        try clear q1
                        try clear q11
                        try clear q15
                        try clear q5
                        obtain ⟨kq, x83_23, rfl, HA, HJ23, ⟨mc23, rfl⟩⟩ := hcut
                        cases kq with
                        | zero => exact absurd HA.out (by simp [scrimref08_number.j3])
                        | succ kj23 =>
                          have H := HA.out
                          clear HA
                          simp only [scrimref08_number.j3] at H
                          by_cases c32 : x83_23 = true
                          · subst c32
                            have H1 : (some (0, false)) = some (r1, r2) := by rw [if_pos rfl] at H; exact H
                            clear H
                            have H := H1
                            clear H1
                            simp only [Option.some.injEq, Prod.mk.injEq] at H
                            obtain ⟨rfl, rfl⟩ := H
                            go_wp2
                            repeat (go_quiet (fail); try go_wp2)
                            go_ret2
                            exact ⟨by first | rfl | (simp; done) | (simp [*]; done), by repeat (first | exact Drawn0.refl _ | apply Drawn0.step)⟩
                          · replace c32 := Bool.eq_false_iff.mpr c32
                            subst c32
                            have H1 : (scrimref08_number.l1 kj23 (a0.extract 0 (x6_2 : Int).toNat) x9_18 1 0) = some (r1, r2) := by rw [if_neg (show ¬ (false = true) by decide)] at H; exact H
                            clear H
                            have H := H1
                            clear H1
                            have H' := Aside0.mk H
                            clear H
                            go_wp2
                            repeat (go_quiet (fail); try go_wp2)
                            go_loopg [10, 11] kj23 (fun kq v10 v11 w' => ∃ (x10_5 : Int) (x11_5 : Int), v10 = .int .i64 x10_5 ∧ v11 = .int .i64 x11_5 ∧ Aside0 (scrimref08_number.l1 kq (a0.extract 0 (x6_2 : Int).toNat) x9_18 x10_5 x11_5 = some (r1, r2)) ∧ Aside0 (kq ≤ kj23) ∧ Drawn0 w w')
                            case atStart => exact ⟨(1), (0), (by first | rfl | (simp; done) | (simp [*]; done)), (by first | rfl | (simp; done) | (simp [*]; done)), H', ⟨Nat.le_refl _⟩, by repeat (first | exact Drawn0.refl _ | apply Drawn0.step)⟩
                            case round =>
                              clear H'
                              try clear c1
                              try clear p1
                              try clear q1
                              try clear hx1
                              try clear qi1
                              try clear c2
                              try clear p2
                              try clear c3
                              try clear c3b0
                              try clear c3b1
                              try clear c4
                              try clear c4b0
                              try clear c4b1
                              try clear p5
                              try clear q5
                              try clear hx5
                              try clear qi5
                              try clear c6
                              try clear p6
                              try clear c7
                              try clear c7b0
                              try clear c7b1
                              try clear c9
                              try clear c10
                              try clear c10b0
                              try clear c10b1
                              try clear p11
                              try clear q11
                              try clear hx11
                              try clear qi11
                              try clear c12
                              try clear c12b0
                              try clear c13
                              try clear c13b0
                              try clear c14
                              try clear c14b0
                              try clear p15
                              try clear q15
                              try clear hx15
                              try clear c16
                              try clear c16b0
                              try clear c16b1
                              try clear c17
                              try clear c17b0
                              try clear c17b1
                              try clear c18
                              try clear c18b0
                              try clear c18b1
                              try clear c20
                              try clear c20b0
                              try clear c22
                              try clear c22b0
                              try clear c22b1
                              try clear c23
                              try clear c23b0
                              try clear c23b1
                              try clear c25
                              try clear c25b0
                              try clear c25b1
                              try clear c26
                              try clear c26b0
                              try clear c26b1
                              try clear c27
                              try clear c27b0
                              try clear c27b1
                              try clear c28
                              try clear c28b0
                              try clear c28b1
                              try clear c30
                              try clear c30b0
                              try clear c32
                              try clear p1
                              try clear p11
                              try clear p15
                              try clear p2
                              try clear p5
                              try clear p6
                              try clear q1
                              try clear q11
                              try clear q15
                              try clear q5
                              obtain ⟨x10_5, x11_5, rfl, rfl, HA, HK5, ⟨m5, rfl⟩⟩ := hrel
                              cases gk with
                              | zero => exact absurd HA.out (by simp [scrimref08_number.l1])
                              | succ k5 =>
                                have H := HA.out
                                clear HA
                                simp only [scrimref08_number.l1] at H
                                by_cases c33 : x11_5 < (x9_18.size : Int)
                                · rw [if_pos c33] at H
                                  have c33b0 : decide (x11_5 < (x9_18.size : Int)) = true := decide_eq_true c33
                                  clear c33
                                  have H' := Aside0.mk H
                                  clear H
                                  go_wp2
                                  repeat (go_quiet (fail); try go_wp2)
                                  go_roundg k5
                                  case measure => have := HJ1.out; have := HK2.out; have := HJ18.out; have := HJ23.out; have := HK5.out; omega
                                  case rel => exact ⟨(wrap64 (10 * x10_5)), (wrap64 (x11_5 + 1)), (by first | rfl | (simp; done) | (simp [*]; done)), (by first | rfl | (simp; done) | (simp [*]; done)), H', ⟨by have := HJ1.out; have := HK2.out; have := HJ18.out; have := HJ23.out; have := HK5.out; omega⟩, by repeat (first | exact Drawn0.refl _ | apply Drawn0.step)⟩
                                · rw [if_neg c33] at H
                                  have c33b0 : decide (x11_5 < (x9_18.size : Int)) = false := decide_eq_false c33
                                  clear c33
                                  replace H := Option.bind_eq_some_iff.mp H
                                  obtain ⟨t179, A340, H⟩ := H
                                  replace H : ((scrimref08_digits.f k5 x9_18).bind fun t180 => (if x10_5 = 0 then (none) else (some (wrap64 ((wrap64 (64 * t179)) + (wrap64 (Int.tdiv (wrap64 (64 * t180)) x10_5))), true)))) = some (r1, r2) := H
                                  have A34 := Aside0.mk A340
                                  clear A340
                                  replace H := Option.bind_eq_some_iff.mp H
                                  obtain ⟨t180, A350, H⟩ := H
                                  replace H : (if x10_5 = 0 then (none) else (some (wrap64 ((wrap64 (64 * t179)) + (wrap64 (Int.tdiv (wrap64 (64 * t180)) x10_5))), true))) = some (r1, r2) := H
                                  have A35 := Aside0.mk A350
                                  clear A350
                                  by_cases c36 : x10_5 = 0
                                  · rw [if_pos c36] at H
                                    exact absurd H (by simp)
                                  · rw [if_neg c36] at H
                                    have c36b0 : (x10_5 == 0) = false := beq_eq_false_iff_ne.mpr c36
                                    have c36b1 : (x10_5 != 0) = true := bne_iff_ne.mpr c36
                                    simp only [Option.some.injEq, Prod.mk.injEq] at H
                                    obtain ⟨rfl, rfl⟩ := H
                                    go_wp2_with (first | (go_at_call 61; (with_reducible refine (scrimref08_digits.calls k5 (a0.extract 0 (x6_2 : Int).toNat) t179 _ A34.out).mono ?_); rintro e w' ⟨rfl, ⟨nd, rfl⟩⟩; (try first | exact ⟨rfl, _, World.drewN_drewN _ _ _⟩ | exact ⟨rfl, _, Eq.trans (World.drewN_drewN _ _ _) (congrArg (World.drewN _) (Nat.add_assoc _ _ _))⟩)) | (go_at_call 61; (with_reducible refine (scrimref08_digits.calls k5 x9_18 t180 _ A35.out).mono ?_); rintro e w' ⟨rfl, ⟨nd, rfl⟩⟩; (try first | exact ⟨rfl, _, World.drewN_drewN _ _ _⟩ | exact ⟨rfl, _, Eq.trans (World.drewN_drewN _ _ _) (congrArg (World.drewN _) (Nat.add_assoc _ _ _))⟩)))
                                    repeat (go_quiet (first | (go_at_call 61; (with_reducible refine (scrimref08_digits.calls k5 (a0.extract 0 (x6_2 : Int).toNat) t179 _ A34.out).mono ?_); rintro e w' ⟨rfl, ⟨nd, rfl⟩⟩; (try first | exact ⟨rfl, _, World.drewN_drewN _ _ _⟩ | exact ⟨rfl, _, Eq.trans (World.drewN_drewN _ _ _) (congrArg (World.drewN _) (Nat.add_assoc _ _ _))⟩)) | (go_at_call 61; (with_reducible refine (scrimref08_digits.calls k5 x9_18 t180 _ A35.out).mono ?_); rintro e w' ⟨rfl, ⟨nd, rfl⟩⟩; (try first | exact ⟨rfl, _, World.drewN_drewN _ _ _⟩ | exact ⟨rfl, _, Eq.trans (World.drewN_drewN _ _ _) (congrArg (World.drewN _) (Nat.add_assoc _ _ _))⟩))); try go_wp2_with (first | (go_at_call 61; (with_reducible refine (scrimref08_digits.calls k5 (a0.extract 0 (x6_2 : Int).toNat) t179 _ A34.out).mono ?_); rintro e w' ⟨rfl, ⟨nd, rfl⟩⟩; (try first | exact ⟨rfl, _, World.drewN_drewN _ _ _⟩ | exact ⟨rfl, _, Eq.trans (World.drewN_drewN _ _ _) (congrArg (World.drewN _) (Nat.add_assoc _ _ _))⟩)) | (go_at_call 61; (with_reducible refine (scrimref08_digits.calls k5 x9_18 t180 _ A35.out).mono ?_); rintro e w' ⟨rfl, ⟨nd, rfl⟩⟩; (try first | exact ⟨rfl, _, World.drewN_drewN _ _ _⟩ | exact ⟨rfl, _, Eq.trans (World.drewN_drewN _ _ _) (congrArg (World.drewN _) (Nat.add_assoc _ _ _))⟩))))
                                    go_ret2
                                    exact ⟨by first | rfl | (simp; done) | (simp [*]; done), by repeat (first | exact Drawn0.refl _ | apply Drawn0.step)⟩
                · rw [if_neg c18] at H
                  exact absurd H (by simp)
              · rw [if_neg c17] at H
                exact absurd H (by simp)

end Go.Proofs.YtmfhhlgjbjbnhaaGreatDoor.HV
