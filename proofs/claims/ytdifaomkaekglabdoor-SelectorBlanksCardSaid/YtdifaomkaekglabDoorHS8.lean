-- Written by a program of this session (wip/tools/hprint.py), which drives the kit's print; not print.sh's own output.
import Derived.Test.YtdifaomkaekglabDoorHS0
import Derived.Test.YtdifaomkaekglabDoorHS3
import Derived.Test.YtdifaomkaekglabDoorHS4
namespace Go.Proofs.YtdifaomkaekglabDoor.HS
open Go.RowKit Go.Proofs.YtdifaomkaekglabDoorW.PrintWords Go.Proofs.YtdifaomkaekglabDoorW.PrintLast Go.Proofs.YtdifaomkaekglabDoorW.PrintMore
attribute [local go_sem] max2_int min2_int max_two min_two max_three min_three max_four min_four   -- for this text's walks alone
set_option linter.unusedVariables false
set_option linter.unusedSimpArgs false

/-! ### scrimref07_Blank: function 15 -/
def scrimref07_Blank.f (a0 : Int) : Option (Bool) := if a0 = 32 then (some true) else (if a0 = 9 then (some true) else (if a0 = 10 then (some true) else (some (a0 == 13))))
set_option maxHeartbeats 8000000 in
set_option maxRecDepth 100000 in
theorem scrimref07_Blank.calls (a0 : Int) (r : Bool) (w : World) (h : scrimref07_Blank.f a0 = some r) :
    Calls Tryd.prog 15 #[.int .u8 a0] w fun e w' => e = .returned (.bool r) ∧ Drawn0 w w' := by
  have H : (if a0 = 32 then (some true) else (if a0 = 9 then (some true) else (if a0 = 10 then (some true) else (some (a0 == 13))))) = some r := h
  clear h
  by_cases c2 : a0 = 32
  · rw [if_pos c2] at H
    have c2b0 : (a0 == 32) = true := beq_iff_eq.mpr c2
    have c2b1 : (a0 != 32) = false := bne_eq_false_iff_eq.mpr c2
    clear c2
    obtain rfl := Option.some.inj H
    go_enter Tryd.func15, Tryd.ntmps15
    go_wp2
    go_ret
    exact ⟨by first | rfl | (simp; done) | (simp [*]; done), by repeat (first | exact Drawn0.refl _ | apply Drawn0.step)⟩
  · rw [if_neg c2] at H
    have c2b0 : (a0 == 32) = false := beq_eq_false_iff_ne.mpr c2
    have c2b1 : (a0 != 32) = true := bne_iff_ne.mpr c2
    by_cases c3 : a0 = 9
    · rw [if_pos c3] at H
      have c3b0 : (a0 == 9) = true := beq_iff_eq.mpr c3
      have c3b1 : (a0 != 9) = false := bne_eq_false_iff_eq.mpr c3
      clear c3
      obtain rfl := Option.some.inj H
      go_enter Tryd.func15, Tryd.ntmps15
      go_wp2
      go_ret
      exact ⟨by first | rfl | (simp; done) | (simp [*]; done), by repeat (first | exact Drawn0.refl _ | apply Drawn0.step)⟩
    · rw [if_neg c3] at H
      have c3b0 : (a0 == 9) = false := beq_eq_false_iff_ne.mpr c3
      have c3b1 : (a0 != 9) = true := bne_iff_ne.mpr c3
      by_cases c4 : a0 = 10
      · rw [if_pos c4] at H
        have c4b0 : (a0 == 10) = true := beq_iff_eq.mpr c4
        have c4b1 : (a0 != 10) = false := bne_eq_false_iff_eq.mpr c4
        clear c4
        obtain rfl := Option.some.inj H
        go_enter Tryd.func15, Tryd.ntmps15
        go_wp2
        go_ret
        exact ⟨by first | rfl | (simp; done) | (simp [*]; done), by repeat (first | exact Drawn0.refl _ | apply Drawn0.step)⟩
      · rw [if_neg c4] at H
        have c4b0 : (a0 == 10) = false := beq_eq_false_iff_ne.mpr c4
        have c4b1 : (a0 != 10) = true := bne_iff_ne.mpr c4
        obtain rfl := Option.some.inj H
        go_enter Tryd.func15, Tryd.ntmps15
        go_wp2
        go_ret
        exact ⟨by first | rfl | (simp; done) | (simp [*]; done), by repeat (first | exact Drawn0.refl _ | apply Drawn0.step)⟩

/-! ### scrimlaw09_SelectorBlanks: function 4 -/
mutual
def scrimlaw09_SelectorBlanks.l0 : Nat → ByteArray → ByteArray → Int → Option (Bool)
  | 0, _, _, _ => none
  | k + 1, x0, x3, x4 => if x4 < (x0.size : Int) then (if 0 ≤ x4 then (if (bt x0 x4) ≥ 97 then (scrimlaw09_SelectorBlanks.j1 k x0 x3 x4 (bt x0 x4) (decide ((bt x0 x4) ≤ 122))) else (scrimlaw09_SelectorBlanks.j1 k x0 x3 x4 (bt x0 x4) false)) else (none)) else ((selector_Read.f k x0).bind fun bt265 => (if x3.size + 1 ≤ 9223372036854775807 then ((selector_Read.f k (x3 ++ (⟨#[32]⟩ : ByteArray))).bind fun bt273 => (if (bt265.2.2 == bt273.2.2) = true then ((selector_Same.f bt265.1 bt265.2.1 bt273.1 bt273.2.1).bind fun t281 => (some t281)) else (some false))) else (none)))
def scrimlaw09_SelectorBlanks.j1 : Nat → ByteArray → ByteArray → Int → Int → Bool → Option (Bool)
  | 0, _, _, _, _, _ => none
  | k + 1, x0, x3, x4, x5, x29 => if x29 = true then ((scrimref07_Blank.f ((x5 - 32) % 256)).bind fun t282 => (if t282 = true then ((some (([(x5 - 32) % 256] : List Int) : List Int)).bind fun y283 => (if 1 + (strOfNums y283).size ≤ 9223372036854775807 then (if ((⟨#[32]⟩ : ByteArray) ++ (strOfNums y283)).size + 1 ≤ 9223372036854775807 then (if x3.size + (((⟨#[32]⟩ : ByteArray) ++ (strOfNums y283)) ++ (⟨#[9]⟩ : ByteArray)).size ≤ 9223372036854775807 then (scrimlaw09_SelectorBlanks.l0 k x0 (x3 ++ (((⟨#[32]⟩ : ByteArray) ++ (strOfNums y283)) ++ (⟨#[9]⟩ : ByteArray))) (wrap64 (x4 + 1))) else (none)) else (none)) else (none))) else (if ((x5 - 32) % 256) = 62 then ((some (([(x5 - 32) % 256] : List Int) : List Int)).bind fun y286 => (if 1 + (strOfNums y286).size ≤ 9223372036854775807 then (if ((⟨#[32]⟩ : ByteArray) ++ (strOfNums y286)).size + 1 ≤ 9223372036854775807 then (if x3.size + (((⟨#[32]⟩ : ByteArray) ++ (strOfNums y286)) ++ (⟨#[9]⟩ : ByteArray)).size ≤ 9223372036854775807 then (scrimlaw09_SelectorBlanks.l0 k x0 (x3 ++ (((⟨#[32]⟩ : ByteArray) ++ (strOfNums y286)) ++ (⟨#[9]⟩ : ByteArray))) (wrap64 (x4 + 1))) else (none)) else (none)) else (none))) else ((some (([(x5 - 32) % 256] : List Int) : List Int)).bind fun y289 => (if x3.size + (strOfNums y289).size ≤ 9223372036854775807 then (scrimlaw09_SelectorBlanks.l0 k x0 (x3 ++ (strOfNums y289)) (wrap64 (x4 + 1))) else (none)))))) else ((scrimref07_Blank.f x5).bind fun t292 => (if t292 = true then ((some (([x5] : List Int) : List Int)).bind fun y293 => (if 1 + (strOfNums y293).size ≤ 9223372036854775807 then (if ((⟨#[32]⟩ : ByteArray) ++ (strOfNums y293)).size + 1 ≤ 9223372036854775807 then (if x3.size + (((⟨#[32]⟩ : ByteArray) ++ (strOfNums y293)) ++ (⟨#[9]⟩ : ByteArray)).size ≤ 9223372036854775807 then (scrimlaw09_SelectorBlanks.l0 k x0 (x3 ++ (((⟨#[32]⟩ : ByteArray) ++ (strOfNums y293)) ++ (⟨#[9]⟩ : ByteArray))) (wrap64 (x4 + 1))) else (none)) else (none)) else (none))) else (if x5 = 62 then ((some (([x5] : List Int) : List Int)).bind fun y296 => (if 1 + (strOfNums y296).size ≤ 9223372036854775807 then (if ((⟨#[32]⟩ : ByteArray) ++ (strOfNums y296)).size + 1 ≤ 9223372036854775807 then (if x3.size + (((⟨#[32]⟩ : ByteArray) ++ (strOfNums y296)) ++ (⟨#[9]⟩ : ByteArray)).size ≤ 9223372036854775807 then (scrimlaw09_SelectorBlanks.l0 k x0 (x3 ++ (((⟨#[32]⟩ : ByteArray) ++ (strOfNums y296)) ++ (⟨#[9]⟩ : ByteArray))) (wrap64 (x4 + 1))) else (none)) else (none)) else (none))) else ((some (([x5] : List Int) : List Int)).bind fun y299 => (if x3.size + (strOfNums y299).size ≤ 9223372036854775807 then (scrimlaw09_SelectorBlanks.l0 k x0 (x3 ++ (strOfNums y299)) (wrap64 (x4 + 1))) else (none))))))
end
def scrimlaw09_SelectorBlanks.f (k : Nat) (a0 : ByteArray) : Option (Bool) := (scrimlaw09_awake.f k).bind fun t264 => (if t264 = true then (if (a0.size : Int) > 400 then (some true) else (scrimlaw09_SelectorBlanks.l0 k a0 (⟨#[10, 32]⟩ : ByteArray) 0)) else (some false))
theorem scrimlaw09_SelectorBlanks.mono_l : ∀ k, (∀ y0 y1 y2, LeO (scrimlaw09_SelectorBlanks.l0 k y0 y1 y2) (scrimlaw09_SelectorBlanks.l0 (k + 1) y0 y1 y2)) ∧ (∀ y0 y1 y2 y3 y4, LeO (scrimlaw09_SelectorBlanks.j1 k y0 y1 y2 y3 y4) (scrimlaw09_SelectorBlanks.j1 (k + 1) y0 y1 y2 y3 y4))
  | 0 => ⟨fun _ _ _ r h => by simp [scrimlaw09_SelectorBlanks.l0] at h, fun _ _ _ _ _ r h => by simp [scrimlaw09_SelectorBlanks.j1] at h⟩
  | k + 1 => by
    obtain ⟨ih0, ih1⟩ := scrimlaw09_SelectorBlanks.mono_l k
    refine ⟨?_, ?_⟩
    · intro y0 y1 y2
      unfold scrimlaw09_SelectorBlanks.l0
      repeat' first
      | (with_reducible exact ih0 _ _ _)
      | (with_reducible exact ih1 _ _ _ _ _)
      | (with_reducible exact scrimlaw09_awake.mono _)
      | (with_reducible exact selector_Read.mono _ _)
      | (with_reducible exact LeO.refl _)
      | (with_reducible exact LeO.none _)
      | (with_reducible refine LeO.ite ?_ ?_)
      | (with_reducible refine LeO.bind ?_ (fun _ => ?_))
      | exact ih0 _ _ _
      | exact ih1 _ _ _ _ _
      | exact scrimlaw09_awake.mono _
      | exact selector_Read.mono _ _
      | exact LeO.none _
      | refine LeO.ite ?_ ?_
      | refine LeO.bind ?_ (fun _ => ?_)
    · intro y0 y1 y2 y3 y4
      unfold scrimlaw09_SelectorBlanks.j1
      repeat' first
      | (with_reducible exact ih0 _ _ _)
      | (with_reducible exact ih1 _ _ _ _ _)
      | (with_reducible exact scrimlaw09_awake.mono _)
      | (with_reducible exact selector_Read.mono _ _)
      | (with_reducible exact LeO.refl _)
      | (with_reducible exact LeO.none _)
      | (with_reducible refine LeO.ite ?_ ?_)
      | (with_reducible refine LeO.bind ?_ (fun _ => ?_))
      | exact ih0 _ _ _
      | exact ih1 _ _ _ _ _
      | exact scrimlaw09_awake.mono _
      | exact selector_Read.mono _ _
      | exact LeO.none _
      | refine LeO.ite ?_ ?_
      | refine LeO.bind ?_ (fun _ => ?_)
theorem scrimlaw09_SelectorBlanks.mono : ∀ a0 k, LeO (scrimlaw09_SelectorBlanks.f k a0) (scrimlaw09_SelectorBlanks.f (k + 1) a0) := by
  intro a0 k
  obtain ⟨ih0, ih1⟩ := scrimlaw09_SelectorBlanks.mono_l k
  unfold scrimlaw09_SelectorBlanks.f
  repeat' first
      | (with_reducible exact ih0 _ _ _)
      | (with_reducible exact ih1 _ _ _ _ _)
      | (with_reducible exact scrimlaw09_awake.mono _)
      | (with_reducible exact selector_Read.mono _ _)
      | (with_reducible exact LeO.refl _)
      | (with_reducible exact LeO.none _)
      | (with_reducible refine LeO.ite ?_ ?_)
      | (with_reducible refine LeO.bind ?_ (fun _ => ?_))
      | exact ih0 _ _ _
      | exact ih1 _ _ _ _ _
      | exact scrimlaw09_awake.mono _
      | exact selector_Read.mono _ _
      | exact LeO.none _
      | refine LeO.ite ?_ ?_
      | refine LeO.bind ?_ (fun _ => ?_)
set_option maxHeartbeats 8000000 in
set_option maxRecDepth 100000 in
theorem scrimlaw09_SelectorBlanks.calls (k : Nat) (a0 : ByteArray) (r : Bool) (hrt : r = true) (w : World) (h : scrimlaw09_SelectorBlanks.f k a0 = some r) (hmx : Go.Proofs.Scn.Mx w) :
    Calls Tryd.prog 4 #[.string a0] w fun e w' => e = .returned (.bool r) ∧ Below w.heap.size w w' := by
  have HMX := Aside0.mk hmx
  clear hmx
  have hu25 := Tryd.underlying25
  have HB := Aside0.mk (Below.refl w.heap.size w)
  have H : ((scrimlaw09_awake.f k).bind fun t264 => (if t264 = true then (if (a0.size : Int) > 400 then (some true) else (scrimlaw09_SelectorBlanks.l0 k a0 (⟨#[10, 32]⟩ : ByteArray) 0)) else (some false))) = some r := h
  clear h
  replace H := Option.bind_eq_some_iff.mp H
  obtain ⟨t264, A20, H⟩ := H
  replace H : (if t264 = true then (if (a0.size : Int) > 400 then (some true) else (scrimlaw09_SelectorBlanks.l0 k a0 (⟨#[10, 32]⟩ : ByteArray) 0)) else (some false)) = some r := H
  have A2 := Aside0.mk A20
  clear A20
  by_cases c3 : t264 = true
  · subst c3
    have H1 : (if (a0.size : Int) > 400 then (some true) else (scrimlaw09_SelectorBlanks.l0 k a0 (⟨#[10, 32]⟩ : ByteArray) 0)) = some r := by rw [if_pos rfl] at H; exact H
    clear H
    have H := H1
    clear H1
    by_cases c4 : (a0.size : Int) > 400
    · rw [if_pos c4] at H
      have c4b0 : decide (400 < (a0.size : Int)) = true := decide_eq_true c4
      have c4b1 : decide (400 < a0.size) = true := decide_eq_true (by omega)
      clear c4
      obtain rfl := Option.some.inj H; clear hrt; try clear H
      go_enter Tryd.func4, Tryd.ntmps4
      go_wp2_with (first | ((with_reducible refine gate_callee (f := 7) rfl ?_); refine goesL_ (some 10) rfl rfl Tryd.func7 (by kernel_rfl) rfl #[] rfl (by (try simp only [List.map_toArray, List.map_cons, List.map_nil]); first | done | rfl | (simp only [List.length_drop, List.length_take]; rfl)) ?_; (with_reducible refine (scrimlaw09_awake.calls k  true rfl _ A2.out (HMX.out.below (by repeat (first | (with_reducible first | exact HB.out | apply below_alloc | apply pw_below_drewN | apply below_drew1 | refine below_set ?_ GE272.out | refine below_set ?_ GE280.out) | exact HB.out)))).mono ?_); rintro e w5 ⟨rfl, hb⟩; refine ⟨_, rfl, ?_⟩; have n0_ := Aside0.mk (below_step (by repeat (first | (with_reducible first | exact HB.out | apply below_alloc | apply pw_below_drewN | apply below_drew1) | exact HB.out)) hb); clear HB; have HB := n0_; clear n0_; (try clear hb); (try clear hb2); (try clear hk); (try clear hi)))
      go_ret
      exact ⟨by first | rfl | (simp [errW_none, errW_some] <;> rfl) | (simp [*, errW_none, errW_some] <;> rfl), by repeat (first | (with_reducible first | exact HB.out | apply below_alloc | apply pw_below_drewN | apply below_drew1) | exact HB.out)⟩
    · rw [if_neg c4] at H
      have c4b0 : decide (400 < (a0.size : Int)) = false := decide_eq_false c4
      have c4b1 : decide (400 < a0.size) = false := decide_eq_false (by omega)
      clear c4
      have H' := Aside0.mk H
      clear H
      go_enter Tryd.func4, Tryd.ntmps4
      go_wp2_with (first | ((with_reducible refine gate_callee (f := 7) rfl ?_); refine goesL_ (some 10) rfl rfl Tryd.func7 (by kernel_rfl) rfl #[] rfl (by (try simp only [List.map_toArray, List.map_cons, List.map_nil]); first | done | rfl | (simp only [List.length_drop, List.length_take]; rfl)) ?_; (with_reducible refine (scrimlaw09_awake.calls k  true rfl _ A2.out (HMX.out.below (by repeat (first | (with_reducible first | exact HB.out | apply below_alloc | apply pw_below_drewN | apply below_drew1 | refine below_set ?_ GE272.out | refine below_set ?_ GE280.out) | exact HB.out)))).mono ?_); rintro e w6 ⟨rfl, hb⟩; refine ⟨_, rfl, ?_⟩; have n0_ := Aside0.mk (below_step (by repeat (first | (with_reducible first | exact HB.out | apply below_alloc | apply pw_below_drewN | apply below_drew1) | exact HB.out)) hb); clear HB; have HB := n0_; clear n0_; (try clear hb); (try clear hb2); (try clear hk); (try clear hi)))
      go_loopg [3, 4] k (fun kq v3 v4 w' => ∃ (x3_1 : ByteArray) (x4_1 : Int), v3 = .string x3_1 ∧ v4 = .int .i64 x4_1 ∧ Aside0 (scrimlaw09_SelectorBlanks.l0 kq a0 x3_1 x4_1 = some r) ∧ Aside0 (kq ≤ k) ∧ Aside0 (Below w.heap.size w w'))
      case atStart => exact ⟨((⟨#[10, 32]⟩ : ByteArray)), (0), (by first | rfl | (simp; done) | (simp [*]; done)), (by first | rfl | (simp; done) | (simp [*]; done)), H', ⟨Nat.le_refl _⟩, ⟨by repeat (first | (with_reducible first | exact HB.out | apply below_alloc | apply pw_below_drewN | apply below_drew1) | exact HB.out)⟩⟩
      case round =>
        clear H'
        try clear p2
        try clear c3
        try clear c4
        try clear c4b0
        try clear c4b1
        obtain ⟨x3_1, x4_1, rfl, rfl, HA, HK1, HB⟩ := hrel
        cases gk with
        | zero => exact absurd HA.out (by simp [scrimlaw09_SelectorBlanks.l0])
        | succ k1 =>
          have H := HA.out
          clear HA
          simp only [scrimlaw09_SelectorBlanks.l0] at H
          by_cases c7 : x4_1 < (a0.size : Int)
          · rw [if_pos c7] at H
            have c7b0 : decide (x4_1 < (a0.size : Int)) = true := decide_eq_true c7
            clear c7
            by_cases c8 : 0 ≤ x4_1
            · rw [if_pos c8] at H
              have c8b0 : decide (0 ≤ x4_1) = true := decide_eq_true c8
              clear c8
              have HC10 := Aside0.mk H
              clear H
              have p9 : 0 ≤ (x4_1 : Int) := of_decide_eq_true (by first | (with_reducible assumption) | assumption)
              have q9 : x4_1 < (a0.size : Int) := of_decide_eq_true (by first | (with_reducible assumption) | assumption)
              have hx9 := bt_at a0 x4_1
              replace p9 := eq_true p9
              replace q9 := eq_true q9
              go_upto_region 10 with (fail)
              go_cut [29] (fun v29 wc => ∃ (kq : Nat) (x29_9 : Bool), v29 = .bool x29_9 ∧ Aside0 (scrimlaw09_SelectorBlanks.j1 kq a0 x3_1 x4_1 (bt a0 x4_1) x29_9 = some r) ∧ Aside0 (kq ≤ k1) ∧ Aside0 (Below w.heap.size w wc))
              case first =>
                have H := HC10.out
                clear HC10
                by_cases c11 : (bt a0 x4_1) ≥ 97
                · rw [if_pos c11] at H
                  have c11b0 : decide (97 ≤ (bt a0 x4_1)) = true := decide_eq_true c11
                  clear c11
                  (first | rw [c11b0] | (simp only [i64_w, i32_w]; rw [c11b0]) | skip)
                  have H' := Aside0.mk H
                  clear H
                  go_wp2
                  go_meet
                  case rel => exact ⟨_, (decide ((bt a0 x4_1) ≤ 122)), (by first | rfl | (simp; done) | (simp [*]; done)), H', ⟨by have := HK1.out; first | omega | exact Nat.le_refl _⟩, ⟨by repeat (first | (with_reducible first | exact HB.out | apply below_alloc | apply pw_below_drewN | apply below_drew1) | exact HB.out)⟩⟩
                · rw [if_neg c11] at H
                  have c11b0 : decide (97 ≤ (bt a0 x4_1)) = false := decide_eq_false c11
                  clear c11
                  (first | rw [c11b0] | (simp only [i64_w, i32_w]; rw [c11b0]) | skip)
                  have H' := Aside0.mk H
                  clear H
                  go_wp2
                  go_meet
                  case rel => exact ⟨_, (false), (by first | rfl | (simp; done) | (simp [*]; done)), H', ⟨by have := HK1.out; first | omega | exact Nat.le_refl _⟩, ⟨by repeat (first | (with_reducible first | exact HB.out | apply below_alloc | apply pw_below_drewN | apply below_drew1) | exact HB.out)⟩⟩
              case rest =>
                clear HC10
                try clear c1
                try clear p2
                try clear c3
                try clear c4
                try clear c4b0
                try clear c4b1
                try clear c7
                try clear c7b0
                try clear c8
                try clear c8b0
                try clear p9
                try clear q9
                try clear hx9
                try clear c11
                try clear c11b0
                try clear p2
                try clear p9
                try clear q9
                obtain ⟨kq, x29_9, rfl, HA, HJ9, HB⟩ := hcut
                cases kq with
                | zero => exact absurd HA.out (by simp [scrimlaw09_SelectorBlanks.j1])
                | succ kj9 =>
                  have H := HA.out
                  clear HA
                  simp only [scrimlaw09_SelectorBlanks.j1] at H
                  by_cases c12 : x29_9 = true
                  · subst c12
                    have H1 : ((scrimref07_Blank.f (((bt a0 x4_1) - 32) % 256)).bind fun t282 => (if t282 = true then ((some (([((bt a0 x4_1) - 32) % 256] : List Int) : List Int)).bind fun y283 => (if 1 + (strOfNums y283).size ≤ 9223372036854775807 then (if ((⟨#[32]⟩ : ByteArray) ++ (strOfNums y283)).size + 1 ≤ 9223372036854775807 then (if x3_1.size + (((⟨#[32]⟩ : ByteArray) ++ (strOfNums y283)) ++ (⟨#[9]⟩ : ByteArray)).size ≤ 9223372036854775807 then (scrimlaw09_SelectorBlanks.l0 kj9 a0 (x3_1 ++ (((⟨#[32]⟩ : ByteArray) ++ (strOfNums y283)) ++ (⟨#[9]⟩ : ByteArray))) (wrap64 (x4_1 + 1))) else (none)) else (none)) else (none))) else (if (((bt a0 x4_1) - 32) % 256) = 62 then ((some (([((bt a0 x4_1) - 32) % 256] : List Int) : List Int)).bind fun y286 => (if 1 + (strOfNums y286).size ≤ 9223372036854775807 then (if ((⟨#[32]⟩ : ByteArray) ++ (strOfNums y286)).size + 1 ≤ 9223372036854775807 then (if x3_1.size + (((⟨#[32]⟩ : ByteArray) ++ (strOfNums y286)) ++ (⟨#[9]⟩ : ByteArray)).size ≤ 9223372036854775807 then (scrimlaw09_SelectorBlanks.l0 kj9 a0 (x3_1 ++ (((⟨#[32]⟩ : ByteArray) ++ (strOfNums y286)) ++ (⟨#[9]⟩ : ByteArray))) (wrap64 (x4_1 + 1))) else (none)) else (none)) else (none))) else ((some (([((bt a0 x4_1) - 32) % 256] : List Int) : List Int)).bind fun y289 => (if x3_1.size + (strOfNums y289).size ≤ 9223372036854775807 then (scrimlaw09_SelectorBlanks.l0 kj9 a0 (x3_1 ++ (strOfNums y289)) (wrap64 (x4_1 + 1))) else (none)))))) = some r := by rw [if_pos rfl] at H; exact H
                    clear H
                    have H := H1
                    clear H1
                    replace H := Option.bind_eq_some_iff.mp H
                    obtain ⟨t282, A130, H⟩ := H
                    replace H : (if t282 = true then ((some (([((bt a0 x4_1) - 32) % 256] : List Int) : List Int)).bind fun y283 => (if 1 + (strOfNums y283).size ≤ 9223372036854775807 then (if ((⟨#[32]⟩ : ByteArray) ++ (strOfNums y283)).size + 1 ≤ 9223372036854775807 then (if x3_1.size + (((⟨#[32]⟩ : ByteArray) ++ (strOfNums y283)) ++ (⟨#[9]⟩ : ByteArray)).size ≤ 9223372036854775807 then (scrimlaw09_SelectorBlanks.l0 kj9 a0 (x3_1 ++ (((⟨#[32]⟩ : ByteArray) ++ (strOfNums y283)) ++ (⟨#[9]⟩ : ByteArray))) (wrap64 (x4_1 + 1))) else (none)) else (none)) else (none))) else (if (((bt a0 x4_1) - 32) % 256) = 62 then ((some (([((bt a0 x4_1) - 32) % 256] : List Int) : List Int)).bind fun y286 => (if 1 + (strOfNums y286).size ≤ 9223372036854775807 then (if ((⟨#[32]⟩ : ByteArray) ++ (strOfNums y286)).size + 1 ≤ 9223372036854775807 then (if x3_1.size + (((⟨#[32]⟩ : ByteArray) ++ (strOfNums y286)) ++ (⟨#[9]⟩ : ByteArray)).size ≤ 9223372036854775807 then (scrimlaw09_SelectorBlanks.l0 kj9 a0 (x3_1 ++ (((⟨#[32]⟩ : ByteArray) ++ (strOfNums y286)) ++ (⟨#[9]⟩ : ByteArray))) (wrap64 (x4_1 + 1))) else (none)) else (none)) else (none))) else ((some (([((bt a0 x4_1) - 32) % 256] : List Int) : List Int)).bind fun y289 => (if x3_1.size + (strOfNums y289).size ≤ 9223372036854775807 then (scrimlaw09_SelectorBlanks.l0 kj9 a0 (x3_1 ++ (strOfNums y289)) (wrap64 (x4_1 + 1))) else (none))))) = some r := H
                    have A13 := Aside0.mk A130
                    clear A130
                    by_cases c14 : t282 = true
                    · subst c14
                      have H1 : ((some (([((bt a0 x4_1) - 32) % 256] : List Int) : List Int)).bind fun y283 => (if 1 + (strOfNums y283).size ≤ 9223372036854775807 then (if ((⟨#[32]⟩ : ByteArray) ++ (strOfNums y283)).size + 1 ≤ 9223372036854775807 then (if x3_1.size + (((⟨#[32]⟩ : ByteArray) ++ (strOfNums y283)) ++ (⟨#[9]⟩ : ByteArray)).size ≤ 9223372036854775807 then (scrimlaw09_SelectorBlanks.l0 kj9 a0 (x3_1 ++ (((⟨#[32]⟩ : ByteArray) ++ (strOfNums y283)) ++ (⟨#[9]⟩ : ByteArray))) (wrap64 (x4_1 + 1))) else (none)) else (none)) else (none))) = some r := by rw [if_pos rfl] at H; exact H
                      clear H
                      have H := H1
                      clear H1
                      obtain ⟨y283, hy283⟩ : ∃ y_ : List Int, y_ = (([((bt a0 x4_1) - 32) % 256] : List Int)) := ⟨_, rfl⟩
                      replace H : (if 1 + (strOfNums y283).size ≤ 9223372036854775807 then (if ((⟨#[32]⟩ : ByteArray) ++ (strOfNums y283)).size + 1 ≤ 9223372036854775807 then (if x3_1.size + (((⟨#[32]⟩ : ByteArray) ++ (strOfNums y283)) ++ (⟨#[9]⟩ : ByteArray)).size ≤ 9223372036854775807 then (scrimlaw09_SelectorBlanks.l0 kj9 a0 (x3_1 ++ (((⟨#[32]⟩ : ByteArray) ++ (strOfNums y283)) ++ (⟨#[9]⟩ : ByteArray))) (wrap64 (x4_1 + 1))) else (none)) else (none)) else (none)) = some r := by first | (rw [hy283]; with_reducible exact H) | (have H2_ := (Option.bind_some _ _).symm.trans H; rw [hy283]; with_reducible exact H2_) | (have H2_ := (Option.bind_some _ _).symm.trans H; with_reducible exact H2_) | with_reducible exact H | (rw [hy283]; exact H) | exact H
                      have Ny283 := Aside0.mk hy283
                      clear hy283
                      by_cases c15 : 1 + (strOfNums y283).size ≤ 9223372036854775807
                      · rw [if_pos c15] at H
                        have c15b0 := eq_true c15
                        have c15b1 : decide (1 + (strOfNums y283).size ≤ 9223372036854775807) = true := decide_eq_true c15
                        try have c15b2 : (9223372036854775807 < 1 + (strOfNums y283).size) = False := eq_false (Nat.not_lt.2 c15)
                        by_cases c16 : ((⟨#[32]⟩ : ByteArray) ++ (strOfNums y283)).size + 1 ≤ 9223372036854775807
                        · rw [if_pos c16] at H
                          have c16b0 := eq_true c16
                          have c16b1 : decide (((⟨#[32]⟩ : ByteArray) ++ (strOfNums y283)).size + 1 ≤ 9223372036854775807) = true := decide_eq_true c16
                          try have c16b2 : (9223372036854775807 < ((⟨#[32]⟩ : ByteArray) ++ (strOfNums y283)).size + 1) = False := eq_false (Nat.not_lt.2 c16)
                          by_cases c17 : x3_1.size + (((⟨#[32]⟩ : ByteArray) ++ (strOfNums y283)) ++ (⟨#[9]⟩ : ByteArray)).size ≤ 9223372036854775807
                          · rw [if_pos c17] at H
                            have c17b0 := eq_true c17
                            have c17b1 : decide (x3_1.size + (((⟨#[32]⟩ : ByteArray) ++ (strOfNums y283)) ++ (⟨#[9]⟩ : ByteArray)).size ≤ 9223372036854775807) = true := decide_eq_true c17
                            try have c17b2 : (9223372036854775807 < x3_1.size + (((⟨#[32]⟩ : ByteArray) ++ (strOfNums y283)) ++ (⟨#[9]⟩ : ByteArray)).size) = False := eq_false (Nat.not_lt.2 c17)
                            have H' := Aside0.mk H
                            clear H
                            go_wp2_with (first | ((with_reducible refine gate_callee (f := 15) rfl ?_); refine goesL_ (some 33) rfl rfl Tryd.func15 (by kernel_rfl) rfl #[.int .u8 (((bt a0 x4_1) - 32) % 256)] rfl (by (try simp only [List.map_toArray, List.map_cons, List.map_nil]); first | done | rfl | (simp only [List.length_drop, List.length_take]; rfl)) ?_; (with_reducible refine (scrimref07_Blank.calls (((bt a0 x4_1) - 32) % 256) true _ A13.out).mono ?_); rintro e w' ⟨rfl, ⟨nd, rfl⟩⟩; refine ⟨_, rfl, ?_⟩) | ((with_reducible refine gate_dst (N := 40) rfl ?_); refine Kd.R_lit (Kd.int .u8) _ 5 ?hg (N := 40) ?hd (xs := ([((bt a0 x4_1) - 32) % 256] : List Int)) (inner := [.int .u8 (((bt a0 x4_1) - 32) % 256)]) (ok := fun _ => True) (okp := fun _ => True) ?hr ?hp (fun _ hk => hk) trivial (Below.refl _ _) (Nat.le_refl _) (by simp) ?_; (case hd => rfl); (case hg => rfl); (case hr => first | (go_simp; done) | (go_simp; rfl)); (case hp => exact (Reps.one (show Kd.M (Kd.int .u8) _ _ _ (((bt a0 x4_1) - 32) % 256) [.int .u8 (((bt a0 x4_1) - 32) % 256)] from rfl) (Reps.none _ _))); intro v284 w18 ho19 hb hg_ hnew_; clear hg_ hnew_; (first | rw [← Ny283.out] at ho19 | (simp only [Int.reduceToNat] at ho19; rw [← Ny283.out] at ho19)); have n0_ := Aside0.mk (Kd.R_lower ho19 (below_size (by repeat (first | (with_reducible first | exact HB.out | apply below_alloc | apply pw_below_drewN | apply below_drew1) | exact HB.out)))); have n1_ := Aside0.mk (below_step (by repeat (first | (with_reducible first | exact HB.out | apply below_alloc | apply pw_below_drewN | apply below_drew1) | exact HB.out)) hb); clear HB; have HO285 := n0_; have HB := n1_; clear n0_ n1_; clear hb ho19; have hcv20 := own_string (P := Tryd.prog) Tryd.underlying40 Tryd.underlying5 Tryd.underlying9 (Kd.own_of_R HO285.out)))
                            repeat (next => (exfalso; rename_i hx_; have : ByteArray.size ⟨#[32]⟩ = 1 := rfl; have : ByteArray.size ⟨#[9]⟩ = 1 := rfl; (try simp only [ByteArray.size_extract, ByteArray.size_append] at c15); (try simp only [ByteArray.size_extract, ByteArray.size_append] at c16); (try simp only [ByteArray.size_extract, ByteArray.size_append] at c17); (try simp only [ByteArray.size_extract, ByteArray.size_append] at hx_); omega))
                            go_roundg kj9
                            case measure => have := HK1.out; have := HJ9.out; omega
                            case rel => exact ⟨(x3_1 ++ (((⟨#[32]⟩ : ByteArray) ++ (strOfNums y283)) ++ (⟨#[9]⟩ : ByteArray))), (wrap64 (x4_1 + 1)), (by first | rfl | (simp; done) | (simp [*]; done)), (by first | rfl | (simp; done) | (simp [*]; done)), H', ⟨by have := HK1.out; have := HJ9.out; omega⟩, ⟨by repeat (first | (with_reducible first | exact HB.out | apply below_alloc | apply pw_below_drewN | apply below_drew1) | exact HB.out)⟩⟩
                          · rw [if_neg c17] at H
                            exact absurd H (by simp)
                        · rw [if_neg c16] at H
                          exact absurd H (by simp)
                      · rw [if_neg c15] at H
                        exact absurd H (by simp)
                    · replace c14 := Bool.eq_false_iff.mpr c14
                      subst c14
                      have H1 : (if (((bt a0 x4_1) - 32) % 256) = 62 then ((some (([((bt a0 x4_1) - 32) % 256] : List Int) : List Int)).bind fun y286 => (if 1 + (strOfNums y286).size ≤ 9223372036854775807 then (if ((⟨#[32]⟩ : ByteArray) ++ (strOfNums y286)).size + 1 ≤ 9223372036854775807 then (if x3_1.size + (((⟨#[32]⟩ : ByteArray) ++ (strOfNums y286)) ++ (⟨#[9]⟩ : ByteArray)).size ≤ 9223372036854775807 then (scrimlaw09_SelectorBlanks.l0 kj9 a0 (x3_1 ++ (((⟨#[32]⟩ : ByteArray) ++ (strOfNums y286)) ++ (⟨#[9]⟩ : ByteArray))) (wrap64 (x4_1 + 1))) else (none)) else (none)) else (none))) else ((some (([((bt a0 x4_1) - 32) % 256] : List Int) : List Int)).bind fun y289 => (if x3_1.size + (strOfNums y289).size ≤ 9223372036854775807 then (scrimlaw09_SelectorBlanks.l0 kj9 a0 (x3_1 ++ (strOfNums y289)) (wrap64 (x4_1 + 1))) else (none)))) = some r := by rw [if_neg (show ¬ (false = true) by decide)] at H; exact H
                      clear H
                      have H := H1
                      clear H1
                      by_cases c21 : (((bt a0 x4_1) - 32) % 256) = 62
                      · rw [if_pos c21] at H
                        have c21b0 : ((((bt a0 x4_1) - 32) % 256) == 62) = true := beq_iff_eq.mpr c21
                        have c21b1 : ((((bt a0 x4_1) - 32) % 256) != 62) = false := bne_eq_false_iff_eq.mpr c21
                        clear c21
                        obtain ⟨y286, hy286⟩ : ∃ y_ : List Int, y_ = (([((bt a0 x4_1) - 32) % 256] : List Int)) := ⟨_, rfl⟩
                        replace H : (if 1 + (strOfNums y286).size ≤ 9223372036854775807 then (if ((⟨#[32]⟩ : ByteArray) ++ (strOfNums y286)).size + 1 ≤ 9223372036854775807 then (if x3_1.size + (((⟨#[32]⟩ : ByteArray) ++ (strOfNums y286)) ++ (⟨#[9]⟩ : ByteArray)).size ≤ 9223372036854775807 then (scrimlaw09_SelectorBlanks.l0 kj9 a0 (x3_1 ++ (((⟨#[32]⟩ : ByteArray) ++ (strOfNums y286)) ++ (⟨#[9]⟩ : ByteArray))) (wrap64 (x4_1 + 1))) else (none)) else (none)) else (none)) = some r := by first | (rw [hy286]; with_reducible exact H) | (have H2_ := (Option.bind_some _ _).symm.trans H; rw [hy286]; with_reducible exact H2_) | (have H2_ := (Option.bind_some _ _).symm.trans H; with_reducible exact H2_) | with_reducible exact H | (rw [hy286]; exact H) | exact H
                        have Ny286 := Aside0.mk hy286
                        clear hy286
                        by_cases c22 : 1 + (strOfNums y286).size ≤ 9223372036854775807
                        · rw [if_pos c22] at H
                          have c22b0 := eq_true c22
                          have c22b1 : decide (1 + (strOfNums y286).size ≤ 9223372036854775807) = true := decide_eq_true c22
                          try have c22b2 : (9223372036854775807 < 1 + (strOfNums y286).size) = False := eq_false (Nat.not_lt.2 c22)
                          by_cases c23 : ((⟨#[32]⟩ : ByteArray) ++ (strOfNums y286)).size + 1 ≤ 9223372036854775807
                          · rw [if_pos c23] at H
                            have c23b0 := eq_true c23
                            have c23b1 : decide (((⟨#[32]⟩ : ByteArray) ++ (strOfNums y286)).size + 1 ≤ 9223372036854775807) = true := decide_eq_true c23
                            try have c23b2 : (9223372036854775807 < ((⟨#[32]⟩ : ByteArray) ++ (strOfNums y286)).size + 1) = False := eq_false (Nat.not_lt.2 c23)
                            by_cases c24 : x3_1.size + (((⟨#[32]⟩ : ByteArray) ++ (strOfNums y286)) ++ (⟨#[9]⟩ : ByteArray)).size ≤ 9223372036854775807
                            · rw [if_pos c24] at H
                              have c24b0 := eq_true c24
                              have c24b1 : decide (x3_1.size + (((⟨#[32]⟩ : ByteArray) ++ (strOfNums y286)) ++ (⟨#[9]⟩ : ByteArray)).size ≤ 9223372036854775807) = true := decide_eq_true c24
                              try have c24b2 : (9223372036854775807 < x3_1.size + (((⟨#[32]⟩ : ByteArray) ++ (strOfNums y286)) ++ (⟨#[9]⟩ : ByteArray)).size) = False := eq_false (Nat.not_lt.2 c24)
                              have H' := Aside0.mk H
                              clear H
                              go_wp2_with (first | ((with_reducible refine gate_callee (f := 15) rfl ?_); refine goesL_ (some 33) rfl rfl Tryd.func15 (by kernel_rfl) rfl #[.int .u8 (((bt a0 x4_1) - 32) % 256)] rfl (by (try simp only [List.map_toArray, List.map_cons, List.map_nil]); first | done | rfl | (simp only [List.length_drop, List.length_take]; rfl)) ?_; (with_reducible refine (scrimref07_Blank.calls (((bt a0 x4_1) - 32) % 256) false _ A13.out).mono ?_); rintro e w' ⟨rfl, ⟨nd, rfl⟩⟩; refine ⟨_, rfl, ?_⟩) | ((with_reducible refine gate_dst (N := 40) rfl ?_); refine Kd.R_lit (Kd.int .u8) _ 5 ?hg (N := 40) ?hd (xs := ([((bt a0 x4_1) - 32) % 256] : List Int)) (inner := [.int .u8 (((bt a0 x4_1) - 32) % 256)]) (ok := fun _ => True) (okp := fun _ => True) ?hr ?hp (fun _ hk => hk) trivial (Below.refl _ _) (Nat.le_refl _) (by simp) ?_; (case hd => rfl); (case hg => rfl); (case hr => first | (go_simp; done) | (go_simp; rfl)); (case hp => exact (Reps.one (show Kd.M (Kd.int .u8) _ _ _ (((bt a0 x4_1) - 32) % 256) [.int .u8 (((bt a0 x4_1) - 32) % 256)] from rfl) (Reps.none _ _))); intro v287 w25 ho26 hb hg_ hnew_; clear hg_ hnew_; (first | rw [← Ny286.out] at ho26 | (simp only [Int.reduceToNat] at ho26; rw [← Ny286.out] at ho26)); have n0_ := Aside0.mk (Kd.R_lower ho26 (below_size (by repeat (first | (with_reducible first | exact HB.out | apply below_alloc | apply pw_below_drewN | apply below_drew1) | exact HB.out)))); have n1_ := Aside0.mk (below_step (by repeat (first | (with_reducible first | exact HB.out | apply below_alloc | apply pw_below_drewN | apply below_drew1) | exact HB.out)) hb); clear HB; have HO288 := n0_; have HB := n1_; clear n0_ n1_; clear hb ho26; have hcv27 := own_string (P := Tryd.prog) Tryd.underlying40 Tryd.underlying5 Tryd.underlying9 (Kd.own_of_R HO288.out)))
                              repeat (next => (exfalso; rename_i hx_; have : ByteArray.size ⟨#[32]⟩ = 1 := rfl; have : ByteArray.size ⟨#[9]⟩ = 1 := rfl; (try simp only [ByteArray.size_extract, ByteArray.size_append] at c22); (try simp only [ByteArray.size_extract, ByteArray.size_append] at c23); (try simp only [ByteArray.size_extract, ByteArray.size_append] at c24); (try simp only [ByteArray.size_extract, ByteArray.size_append] at hx_); omega))
                              go_roundg kj9
                              case measure => have := HK1.out; have := HJ9.out; omega
                              case rel => exact ⟨(x3_1 ++ (((⟨#[32]⟩ : ByteArray) ++ (strOfNums y286)) ++ (⟨#[9]⟩ : ByteArray))), (wrap64 (x4_1 + 1)), (by first | rfl | (simp; done) | (simp [*]; done)), (by first | rfl | (simp; done) | (simp [*]; done)), H', ⟨by have := HK1.out; have := HJ9.out; omega⟩, ⟨by repeat (first | (with_reducible first | exact HB.out | apply below_alloc | apply pw_below_drewN | apply below_drew1) | exact HB.out)⟩⟩
                            · rw [if_neg c24] at H
                              exact absurd H (by simp)
                          · rw [if_neg c23] at H
                            exact absurd H (by simp)
                        · rw [if_neg c22] at H
                          exact absurd H (by simp)
                      · rw [if_neg c21] at H
                        have c21b0 : ((((bt a0 x4_1) - 32) % 256) == 62) = false := beq_eq_false_iff_ne.mpr c21
                        have c21b1 : ((((bt a0 x4_1) - 32) % 256) != 62) = true := bne_iff_ne.mpr c21
                        obtain ⟨y289, hy289⟩ : ∃ y_ : List Int, y_ = (([((bt a0 x4_1) - 32) % 256] : List Int)) := ⟨_, rfl⟩
                        replace H : (if x3_1.size + (strOfNums y289).size ≤ 9223372036854775807 then (scrimlaw09_SelectorBlanks.l0 kj9 a0 (x3_1 ++ (strOfNums y289)) (wrap64 (x4_1 + 1))) else (none)) = some r := by first | (rw [hy289]; with_reducible exact H) | (have H2_ := (Option.bind_some _ _).symm.trans H; rw [hy289]; with_reducible exact H2_) | (have H2_ := (Option.bind_some _ _).symm.trans H; with_reducible exact H2_) | with_reducible exact H | (rw [hy289]; exact H) | exact H
                        have Ny289 := Aside0.mk hy289
                        clear hy289
                        by_cases c28 : x3_1.size + (strOfNums y289).size ≤ 9223372036854775807
                        · rw [if_pos c28] at H
                          have c28b0 := eq_true c28
                          have c28b1 : decide (x3_1.size + (strOfNums y289).size ≤ 9223372036854775807) = true := decide_eq_true c28
                          try have c28b2 : (9223372036854775807 < x3_1.size + (strOfNums y289).size) = False := eq_false (Nat.not_lt.2 c28)
                          have H' := Aside0.mk H
                          clear H
                          go_wp2_with (first | ((with_reducible refine gate_callee (f := 15) rfl ?_); refine goesL_ (some 33) rfl rfl Tryd.func15 (by kernel_rfl) rfl #[.int .u8 (((bt a0 x4_1) - 32) % 256)] rfl (by (try simp only [List.map_toArray, List.map_cons, List.map_nil]); first | done | rfl | (simp only [List.length_drop, List.length_take]; rfl)) ?_; (with_reducible refine (scrimref07_Blank.calls (((bt a0 x4_1) - 32) % 256) false _ A13.out).mono ?_); rintro e w' ⟨rfl, ⟨nd, rfl⟩⟩; refine ⟨_, rfl, ?_⟩) | ((with_reducible refine gate_dst (N := 47) rfl ?_); refine Kd.R_lit (Kd.int .u8) _ 5 ?hg (N := 47) ?hd (xs := ([((bt a0 x4_1) - 32) % 256] : List Int)) (inner := [.int .u8 (((bt a0 x4_1) - 32) % 256)]) (ok := fun _ => True) (okp := fun _ => True) ?hr ?hp (fun _ hk => hk) trivial (Below.refl _ _) (Nat.le_refl _) (by simp) ?_; (case hd => rfl); (case hg => rfl); (case hr => first | (go_simp; done) | (go_simp; rfl)); (case hp => exact (Reps.one (show Kd.M (Kd.int .u8) _ _ _ (((bt a0 x4_1) - 32) % 256) [.int .u8 (((bt a0 x4_1) - 32) % 256)] from rfl) (Reps.none _ _))); intro v290 w29 ho30 hb hg_ hnew_; clear hg_ hnew_; (first | rw [← Ny289.out] at ho30 | (simp only [Int.reduceToNat] at ho30; rw [← Ny289.out] at ho30)); have n0_ := Aside0.mk (Kd.R_lower ho30 (below_size (by repeat (first | (with_reducible first | exact HB.out | apply below_alloc | apply pw_below_drewN | apply below_drew1) | exact HB.out)))); have n1_ := Aside0.mk (below_step (by repeat (first | (with_reducible first | exact HB.out | apply below_alloc | apply pw_below_drewN | apply below_drew1) | exact HB.out)) hb); clear HB; have HO291 := n0_; have HB := n1_; clear n0_ n1_; clear hb ho30; have hcv31 := own_string (P := Tryd.prog) Tryd.underlying40 Tryd.underlying5 Tryd.underlying9 (Kd.own_of_R HO291.out)))
                          repeat (next => (exfalso; rename_i hx_; (try simp only [ByteArray.size_extract, ByteArray.size_append] at c28); (try simp only [ByteArray.size_extract, ByteArray.size_append] at hx_); omega))
                          go_roundg kj9
                          case measure => have := HK1.out; have := HJ9.out; omega
                          case rel => exact ⟨(x3_1 ++ (strOfNums y289)), (wrap64 (x4_1 + 1)), (by first | rfl | (simp; done) | (simp [*]; done)), (by first | rfl | (simp; done) | (simp [*]; done)), H', ⟨by have := HK1.out; have := HJ9.out; omega⟩, ⟨by repeat (first | (with_reducible first | exact HB.out | apply below_alloc | apply pw_below_drewN | apply below_drew1) | exact HB.out)⟩⟩
                        · rw [if_neg c28] at H
                          exact absurd H (by simp)
                  · replace c12 := Bool.eq_false_iff.mpr c12
                    subst c12
                    have H1 : ((scrimref07_Blank.f (bt a0 x4_1)).bind fun t292 => (if t292 = true then ((some (([(bt a0 x4_1)] : List Int) : List Int)).bind fun y293 => (if 1 + (strOfNums y293).size ≤ 9223372036854775807 then (if ((⟨#[32]⟩ : ByteArray) ++ (strOfNums y293)).size + 1 ≤ 9223372036854775807 then (if x3_1.size + (((⟨#[32]⟩ : ByteArray) ++ (strOfNums y293)) ++ (⟨#[9]⟩ : ByteArray)).size ≤ 9223372036854775807 then (scrimlaw09_SelectorBlanks.l0 kj9 a0 (x3_1 ++ (((⟨#[32]⟩ : ByteArray) ++ (strOfNums y293)) ++ (⟨#[9]⟩ : ByteArray))) (wrap64 (x4_1 + 1))) else (none)) else (none)) else (none))) else (if (bt a0 x4_1) = 62 then ((some (([(bt a0 x4_1)] : List Int) : List Int)).bind fun y296 => (if 1 + (strOfNums y296).size ≤ 9223372036854775807 then (if ((⟨#[32]⟩ : ByteArray) ++ (strOfNums y296)).size + 1 ≤ 9223372036854775807 then (if x3_1.size + (((⟨#[32]⟩ : ByteArray) ++ (strOfNums y296)) ++ (⟨#[9]⟩ : ByteArray)).size ≤ 9223372036854775807 then (scrimlaw09_SelectorBlanks.l0 kj9 a0 (x3_1 ++ (((⟨#[32]⟩ : ByteArray) ++ (strOfNums y296)) ++ (⟨#[9]⟩ : ByteArray))) (wrap64 (x4_1 + 1))) else (none)) else (none)) else (none))) else ((some (([(bt a0 x4_1)] : List Int) : List Int)).bind fun y299 => (if x3_1.size + (strOfNums y299).size ≤ 9223372036854775807 then (scrimlaw09_SelectorBlanks.l0 kj9 a0 (x3_1 ++ (strOfNums y299)) (wrap64 (x4_1 + 1))) else (none)))))) = some r := by rw [if_neg (show ¬ (false = true) by decide)] at H; exact H
                    clear H
                    have H := H1
                    clear H1
                    replace H := Option.bind_eq_some_iff.mp H
                    obtain ⟨t292, A320, H⟩ := H
                    replace H : (if t292 = true then ((some (([(bt a0 x4_1)] : List Int) : List Int)).bind fun y293 => (if 1 + (strOfNums y293).size ≤ 9223372036854775807 then (if ((⟨#[32]⟩ : ByteArray) ++ (strOfNums y293)).size + 1 ≤ 9223372036854775807 then (if x3_1.size + (((⟨#[32]⟩ : ByteArray) ++ (strOfNums y293)) ++ (⟨#[9]⟩ : ByteArray)).size ≤ 9223372036854775807 then (scrimlaw09_SelectorBlanks.l0 kj9 a0 (x3_1 ++ (((⟨#[32]⟩ : ByteArray) ++ (strOfNums y293)) ++ (⟨#[9]⟩ : ByteArray))) (wrap64 (x4_1 + 1))) else (none)) else (none)) else (none))) else (if (bt a0 x4_1) = 62 then ((some (([(bt a0 x4_1)] : List Int) : List Int)).bind fun y296 => (if 1 + (strOfNums y296).size ≤ 9223372036854775807 then (if ((⟨#[32]⟩ : ByteArray) ++ (strOfNums y296)).size + 1 ≤ 9223372036854775807 then (if x3_1.size + (((⟨#[32]⟩ : ByteArray) ++ (strOfNums y296)) ++ (⟨#[9]⟩ : ByteArray)).size ≤ 9223372036854775807 then (scrimlaw09_SelectorBlanks.l0 kj9 a0 (x3_1 ++ (((⟨#[32]⟩ : ByteArray) ++ (strOfNums y296)) ++ (⟨#[9]⟩ : ByteArray))) (wrap64 (x4_1 + 1))) else (none)) else (none)) else (none))) else ((some (([(bt a0 x4_1)] : List Int) : List Int)).bind fun y299 => (if x3_1.size + (strOfNums y299).size ≤ 9223372036854775807 then (scrimlaw09_SelectorBlanks.l0 kj9 a0 (x3_1 ++ (strOfNums y299)) (wrap64 (x4_1 + 1))) else (none))))) = some r := H
                    have A32 := Aside0.mk A320
                    clear A320
                    by_cases c33 : t292 = true
                    · subst c33
                      have H1 : ((some (([(bt a0 x4_1)] : List Int) : List Int)).bind fun y293 => (if 1 + (strOfNums y293).size ≤ 9223372036854775807 then (if ((⟨#[32]⟩ : ByteArray) ++ (strOfNums y293)).size + 1 ≤ 9223372036854775807 then (if x3_1.size + (((⟨#[32]⟩ : ByteArray) ++ (strOfNums y293)) ++ (⟨#[9]⟩ : ByteArray)).size ≤ 9223372036854775807 then (scrimlaw09_SelectorBlanks.l0 kj9 a0 (x3_1 ++ (((⟨#[32]⟩ : ByteArray) ++ (strOfNums y293)) ++ (⟨#[9]⟩ : ByteArray))) (wrap64 (x4_1 + 1))) else (none)) else (none)) else (none))) = some r := by rw [if_pos rfl] at H; exact H
                      clear H
                      have H := H1
                      clear H1
                      obtain ⟨y293, hy293⟩ : ∃ y_ : List Int, y_ = (([(bt a0 x4_1)] : List Int)) := ⟨_, rfl⟩
                      replace H : (if 1 + (strOfNums y293).size ≤ 9223372036854775807 then (if ((⟨#[32]⟩ : ByteArray) ++ (strOfNums y293)).size + 1 ≤ 9223372036854775807 then (if x3_1.size + (((⟨#[32]⟩ : ByteArray) ++ (strOfNums y293)) ++ (⟨#[9]⟩ : ByteArray)).size ≤ 9223372036854775807 then (scrimlaw09_SelectorBlanks.l0 kj9 a0 (x3_1 ++ (((⟨#[32]⟩ : ByteArray) ++ (strOfNums y293)) ++ (⟨#[9]⟩ : ByteArray))) (wrap64 (x4_1 + 1))) else (none)) else (none)) else (none)) = some r := by first | (rw [hy293]; with_reducible exact H) | (have H2_ := (Option.bind_some _ _).symm.trans H; rw [hy293]; with_reducible exact H2_) | (have H2_ := (Option.bind_some _ _).symm.trans H; with_reducible exact H2_) | with_reducible exact H | (rw [hy293]; exact H) | exact H
                      have Ny293 := Aside0.mk hy293
                      clear hy293
                      by_cases c34 : 1 + (strOfNums y293).size ≤ 9223372036854775807
                      · rw [if_pos c34] at H
                        have c34b0 := eq_true c34
                        have c34b1 : decide (1 + (strOfNums y293).size ≤ 9223372036854775807) = true := decide_eq_true c34
                        try have c34b2 : (9223372036854775807 < 1 + (strOfNums y293).size) = False := eq_false (Nat.not_lt.2 c34)
                        by_cases c35 : ((⟨#[32]⟩ : ByteArray) ++ (strOfNums y293)).size + 1 ≤ 9223372036854775807
                        · rw [if_pos c35] at H
                          have c35b0 := eq_true c35
                          have c35b1 : decide (((⟨#[32]⟩ : ByteArray) ++ (strOfNums y293)).size + 1 ≤ 9223372036854775807) = true := decide_eq_true c35
                          try have c35b2 : (9223372036854775807 < ((⟨#[32]⟩ : ByteArray) ++ (strOfNums y293)).size + 1) = False := eq_false (Nat.not_lt.2 c35)
                          by_cases c36 : x3_1.size + (((⟨#[32]⟩ : ByteArray) ++ (strOfNums y293)) ++ (⟨#[9]⟩ : ByteArray)).size ≤ 9223372036854775807
                          · rw [if_pos c36] at H
                            have c36b0 := eq_true c36
                            have c36b1 : decide (x3_1.size + (((⟨#[32]⟩ : ByteArray) ++ (strOfNums y293)) ++ (⟨#[9]⟩ : ByteArray)).size ≤ 9223372036854775807) = true := decide_eq_true c36
                            try have c36b2 : (9223372036854775807 < x3_1.size + (((⟨#[32]⟩ : ByteArray) ++ (strOfNums y293)) ++ (⟨#[9]⟩ : ByteArray)).size) = False := eq_false (Nat.not_lt.2 c36)
                            have H' := Aside0.mk H
                            clear H
                            go_wp2_with (first | ((with_reducible refine gate_callee (f := 15) rfl ?_); refine goesL_ (some 33) rfl rfl Tryd.func15 (by kernel_rfl) rfl #[.int .u8 (bt a0 x4_1)] rfl (by (try simp only [List.map_toArray, List.map_cons, List.map_nil]); first | done | rfl | (simp only [List.length_drop, List.length_take]; rfl)) ?_; (with_reducible refine (scrimref07_Blank.calls (bt a0 x4_1) true _ A32.out).mono ?_); rintro e w' ⟨rfl, ⟨nd, rfl⟩⟩; refine ⟨_, rfl, ?_⟩) | ((with_reducible refine gate_dst (N := 40) rfl ?_); refine Kd.R_lit (Kd.int .u8) _ 5 ?hg (N := 40) ?hd (xs := ([(bt a0 x4_1)] : List Int)) (inner := [.int .u8 (bt a0 x4_1)]) (ok := fun _ => True) (okp := fun _ => True) ?hr ?hp (fun _ hk => hk) trivial (Below.refl _ _) (Nat.le_refl _) (by simp) ?_; (case hd => rfl); (case hg => rfl); (case hr => first | (go_simp; done) | (go_simp; rfl)); (case hp => exact (Reps.one (show Kd.M (Kd.int .u8) _ _ _ (bt a0 x4_1) [.int .u8 (bt a0 x4_1)] from rfl) (Reps.none _ _))); intro v294 w37 ho38 hb hg_ hnew_; clear hg_ hnew_; (first | rw [← Ny293.out] at ho38 | (simp only [Int.reduceToNat] at ho38; rw [← Ny293.out] at ho38)); have n0_ := Aside0.mk (Kd.R_lower ho38 (below_size (by repeat (first | (with_reducible first | exact HB.out | apply below_alloc | apply pw_below_drewN | apply below_drew1) | exact HB.out)))); have n1_ := Aside0.mk (below_step (by repeat (first | (with_reducible first | exact HB.out | apply below_alloc | apply pw_below_drewN | apply below_drew1) | exact HB.out)) hb); clear HB; have HO295 := n0_; have HB := n1_; clear n0_ n1_; clear hb ho38; have hcv39 := own_string (P := Tryd.prog) Tryd.underlying40 Tryd.underlying5 Tryd.underlying9 (Kd.own_of_R HO295.out)))
                            repeat (next => (exfalso; rename_i hx_; have : ByteArray.size ⟨#[32]⟩ = 1 := rfl; have : ByteArray.size ⟨#[9]⟩ = 1 := rfl; (try simp only [ByteArray.size_extract, ByteArray.size_append] at c34); (try simp only [ByteArray.size_extract, ByteArray.size_append] at c35); (try simp only [ByteArray.size_extract, ByteArray.size_append] at c36); (try simp only [ByteArray.size_extract, ByteArray.size_append] at hx_); omega))
                            go_roundg kj9
                            case measure => have := HK1.out; have := HJ9.out; omega
                            case rel => exact ⟨(x3_1 ++ (((⟨#[32]⟩ : ByteArray) ++ (strOfNums y293)) ++ (⟨#[9]⟩ : ByteArray))), (wrap64 (x4_1 + 1)), (by first | rfl | (simp; done) | (simp [*]; done)), (by first | rfl | (simp; done) | (simp [*]; done)), H', ⟨by have := HK1.out; have := HJ9.out; omega⟩, ⟨by repeat (first | (with_reducible first | exact HB.out | apply below_alloc | apply pw_below_drewN | apply below_drew1) | exact HB.out)⟩⟩
                          · rw [if_neg c36] at H
                            exact absurd H (by simp)
                        · rw [if_neg c35] at H
                          exact absurd H (by simp)
                      · rw [if_neg c34] at H
                        exact absurd H (by simp)
                    · replace c33 := Bool.eq_false_iff.mpr c33
                      subst c33
                      have H1 : (if (bt a0 x4_1) = 62 then ((some (([(bt a0 x4_1)] : List Int) : List Int)).bind fun y296 => (if 1 + (strOfNums y296).size ≤ 9223372036854775807 then (if ((⟨#[32]⟩ : ByteArray) ++ (strOfNums y296)).size + 1 ≤ 9223372036854775807 then (if x3_1.size + (((⟨#[32]⟩ : ByteArray) ++ (strOfNums y296)) ++ (⟨#[9]⟩ : ByteArray)).size ≤ 9223372036854775807 then (scrimlaw09_SelectorBlanks.l0 kj9 a0 (x3_1 ++ (((⟨#[32]⟩ : ByteArray) ++ (strOfNums y296)) ++ (⟨#[9]⟩ : ByteArray))) (wrap64 (x4_1 + 1))) else (none)) else (none)) else (none))) else ((some (([(bt a0 x4_1)] : List Int) : List Int)).bind fun y299 => (if x3_1.size + (strOfNums y299).size ≤ 9223372036854775807 then (scrimlaw09_SelectorBlanks.l0 kj9 a0 (x3_1 ++ (strOfNums y299)) (wrap64 (x4_1 + 1))) else (none)))) = some r := by rw [if_neg (show ¬ (false = true) by decide)] at H; exact H
                      clear H
                      have H := H1
                      clear H1
                      by_cases c40 : (bt a0 x4_1) = 62
                      · rw [if_pos c40] at H
                        have c40b0 : ((bt a0 x4_1) == 62) = true := beq_iff_eq.mpr c40
                        have c40b1 : ((bt a0 x4_1) != 62) = false := bne_eq_false_iff_eq.mpr c40
                        clear c40
                        obtain ⟨y296, hy296⟩ : ∃ y_ : List Int, y_ = (([(bt a0 x4_1)] : List Int)) := ⟨_, rfl⟩
                        replace H : (if 1 + (strOfNums y296).size ≤ 9223372036854775807 then (if ((⟨#[32]⟩ : ByteArray) ++ (strOfNums y296)).size + 1 ≤ 9223372036854775807 then (if x3_1.size + (((⟨#[32]⟩ : ByteArray) ++ (strOfNums y296)) ++ (⟨#[9]⟩ : ByteArray)).size ≤ 9223372036854775807 then (scrimlaw09_SelectorBlanks.l0 kj9 a0 (x3_1 ++ (((⟨#[32]⟩ : ByteArray) ++ (strOfNums y296)) ++ (⟨#[9]⟩ : ByteArray))) (wrap64 (x4_1 + 1))) else (none)) else (none)) else (none)) = some r := by first | (rw [hy296]; with_reducible exact H) | (have H2_ := (Option.bind_some _ _).symm.trans H; rw [hy296]; with_reducible exact H2_) | (have H2_ := (Option.bind_some _ _).symm.trans H; with_reducible exact H2_) | with_reducible exact H | (rw [hy296]; exact H) | exact H
                        have Ny296 := Aside0.mk hy296
                        clear hy296
                        by_cases c41 : 1 + (strOfNums y296).size ≤ 9223372036854775807
                        · rw [if_pos c41] at H
                          have c41b0 := eq_true c41
                          have c41b1 : decide (1 + (strOfNums y296).size ≤ 9223372036854775807) = true := decide_eq_true c41
                          try have c41b2 : (9223372036854775807 < 1 + (strOfNums y296).size) = False := eq_false (Nat.not_lt.2 c41)
                          by_cases c42 : ((⟨#[32]⟩ : ByteArray) ++ (strOfNums y296)).size + 1 ≤ 9223372036854775807
                          · rw [if_pos c42] at H
                            have c42b0 := eq_true c42
                            have c42b1 : decide (((⟨#[32]⟩ : ByteArray) ++ (strOfNums y296)).size + 1 ≤ 9223372036854775807) = true := decide_eq_true c42
                            try have c42b2 : (9223372036854775807 < ((⟨#[32]⟩ : ByteArray) ++ (strOfNums y296)).size + 1) = False := eq_false (Nat.not_lt.2 c42)
                            by_cases c43 : x3_1.size + (((⟨#[32]⟩ : ByteArray) ++ (strOfNums y296)) ++ (⟨#[9]⟩ : ByteArray)).size ≤ 9223372036854775807
                            · rw [if_pos c43] at H
                              have c43b0 := eq_true c43
                              have c43b1 : decide (x3_1.size + (((⟨#[32]⟩ : ByteArray) ++ (strOfNums y296)) ++ (⟨#[9]⟩ : ByteArray)).size ≤ 9223372036854775807) = true := decide_eq_true c43
                              try have c43b2 : (9223372036854775807 < x3_1.size + (((⟨#[32]⟩ : ByteArray) ++ (strOfNums y296)) ++ (⟨#[9]⟩ : ByteArray)).size) = False := eq_false (Nat.not_lt.2 c43)
                              have H' := Aside0.mk H
                              clear H
                              go_wp2_with (first | ((with_reducible refine gate_callee (f := 15) rfl ?_); refine goesL_ (some 33) rfl rfl Tryd.func15 (by kernel_rfl) rfl #[.int .u8 (bt a0 x4_1)] rfl (by (try simp only [List.map_toArray, List.map_cons, List.map_nil]); first | done | rfl | (simp only [List.length_drop, List.length_take]; rfl)) ?_; (with_reducible refine (scrimref07_Blank.calls (bt a0 x4_1) false _ A32.out).mono ?_); rintro e w' ⟨rfl, ⟨nd, rfl⟩⟩; refine ⟨_, rfl, ?_⟩) | ((with_reducible refine gate_dst (N := 40) rfl ?_); refine Kd.R_lit (Kd.int .u8) _ 5 ?hg (N := 40) ?hd (xs := ([(bt a0 x4_1)] : List Int)) (inner := [.int .u8 (bt a0 x4_1)]) (ok := fun _ => True) (okp := fun _ => True) ?hr ?hp (fun _ hk => hk) trivial (Below.refl _ _) (Nat.le_refl _) (by simp) ?_; (case hd => rfl); (case hg => rfl); (case hr => first | (go_simp; done) | (go_simp; rfl)); (case hp => exact (Reps.one (show Kd.M (Kd.int .u8) _ _ _ (bt a0 x4_1) [.int .u8 (bt a0 x4_1)] from rfl) (Reps.none _ _))); intro v297 w44 ho45 hb hg_ hnew_; clear hg_ hnew_; (first | rw [← Ny296.out] at ho45 | (simp only [Int.reduceToNat] at ho45; rw [← Ny296.out] at ho45)); have n0_ := Aside0.mk (Kd.R_lower ho45 (below_size (by repeat (first | (with_reducible first | exact HB.out | apply below_alloc | apply pw_below_drewN | apply below_drew1) | exact HB.out)))); have n1_ := Aside0.mk (below_step (by repeat (first | (with_reducible first | exact HB.out | apply below_alloc | apply pw_below_drewN | apply below_drew1) | exact HB.out)) hb); clear HB; have HO298 := n0_; have HB := n1_; clear n0_ n1_; clear hb ho45; have hcv46 := own_string (P := Tryd.prog) Tryd.underlying40 Tryd.underlying5 Tryd.underlying9 (Kd.own_of_R HO298.out)))
                              repeat (next => (exfalso; rename_i hx_; have : ByteArray.size ⟨#[32]⟩ = 1 := rfl; have : ByteArray.size ⟨#[9]⟩ = 1 := rfl; (try simp only [ByteArray.size_extract, ByteArray.size_append] at c41); (try simp only [ByteArray.size_extract, ByteArray.size_append] at c42); (try simp only [ByteArray.size_extract, ByteArray.size_append] at c43); (try simp only [ByteArray.size_extract, ByteArray.size_append] at hx_); omega))
                              go_roundg kj9
                              case measure => have := HK1.out; have := HJ9.out; omega
                              case rel => exact ⟨(x3_1 ++ (((⟨#[32]⟩ : ByteArray) ++ (strOfNums y296)) ++ (⟨#[9]⟩ : ByteArray))), (wrap64 (x4_1 + 1)), (by first | rfl | (simp; done) | (simp [*]; done)), (by first | rfl | (simp; done) | (simp [*]; done)), H', ⟨by have := HK1.out; have := HJ9.out; omega⟩, ⟨by repeat (first | (with_reducible first | exact HB.out | apply below_alloc | apply pw_below_drewN | apply below_drew1) | exact HB.out)⟩⟩
                            · rw [if_neg c43] at H
                              exact absurd H (by simp)
                          · rw [if_neg c42] at H
                            exact absurd H (by simp)
                        · rw [if_neg c41] at H
                          exact absurd H (by simp)
                      · rw [if_neg c40] at H
                        have c40b0 : ((bt a0 x4_1) == 62) = false := beq_eq_false_iff_ne.mpr c40
                        have c40b1 : ((bt a0 x4_1) != 62) = true := bne_iff_ne.mpr c40
                        obtain ⟨y299, hy299⟩ : ∃ y_ : List Int, y_ = (([(bt a0 x4_1)] : List Int)) := ⟨_, rfl⟩
                        replace H : (if x3_1.size + (strOfNums y299).size ≤ 9223372036854775807 then (scrimlaw09_SelectorBlanks.l0 kj9 a0 (x3_1 ++ (strOfNums y299)) (wrap64 (x4_1 + 1))) else (none)) = some r := by first | (rw [hy299]; with_reducible exact H) | (have H2_ := (Option.bind_some _ _).symm.trans H; rw [hy299]; with_reducible exact H2_) | (have H2_ := (Option.bind_some _ _).symm.trans H; with_reducible exact H2_) | with_reducible exact H | (rw [hy299]; exact H) | exact H
                        have Ny299 := Aside0.mk hy299
                        clear hy299
                        by_cases c47 : x3_1.size + (strOfNums y299).size ≤ 9223372036854775807
                        · rw [if_pos c47] at H
                          have c47b0 := eq_true c47
                          have c47b1 : decide (x3_1.size + (strOfNums y299).size ≤ 9223372036854775807) = true := decide_eq_true c47
                          try have c47b2 : (9223372036854775807 < x3_1.size + (strOfNums y299).size) = False := eq_false (Nat.not_lt.2 c47)
                          have H' := Aside0.mk H
                          clear H
                          go_wp2_with (first | ((with_reducible refine gate_callee (f := 15) rfl ?_); refine goesL_ (some 33) rfl rfl Tryd.func15 (by kernel_rfl) rfl #[.int .u8 (bt a0 x4_1)] rfl (by (try simp only [List.map_toArray, List.map_cons, List.map_nil]); first | done | rfl | (simp only [List.length_drop, List.length_take]; rfl)) ?_; (with_reducible refine (scrimref07_Blank.calls (bt a0 x4_1) false _ A32.out).mono ?_); rintro e w' ⟨rfl, ⟨nd, rfl⟩⟩; refine ⟨_, rfl, ?_⟩) | ((with_reducible refine gate_dst (N := 47) rfl ?_); refine Kd.R_lit (Kd.int .u8) _ 5 ?hg (N := 47) ?hd (xs := ([(bt a0 x4_1)] : List Int)) (inner := [.int .u8 (bt a0 x4_1)]) (ok := fun _ => True) (okp := fun _ => True) ?hr ?hp (fun _ hk => hk) trivial (Below.refl _ _) (Nat.le_refl _) (by simp) ?_; (case hd => rfl); (case hg => rfl); (case hr => first | (go_simp; done) | (go_simp; rfl)); (case hp => exact (Reps.one (show Kd.M (Kd.int .u8) _ _ _ (bt a0 x4_1) [.int .u8 (bt a0 x4_1)] from rfl) (Reps.none _ _))); intro v300 w48 ho49 hb hg_ hnew_; clear hg_ hnew_; (first | rw [← Ny299.out] at ho49 | (simp only [Int.reduceToNat] at ho49; rw [← Ny299.out] at ho49)); have n0_ := Aside0.mk (Kd.R_lower ho49 (below_size (by repeat (first | (with_reducible first | exact HB.out | apply below_alloc | apply pw_below_drewN | apply below_drew1) | exact HB.out)))); have n1_ := Aside0.mk (below_step (by repeat (first | (with_reducible first | exact HB.out | apply below_alloc | apply pw_below_drewN | apply below_drew1) | exact HB.out)) hb); clear HB; have HO301 := n0_; have HB := n1_; clear n0_ n1_; clear hb ho49; have hcv50 := own_string (P := Tryd.prog) Tryd.underlying40 Tryd.underlying5 Tryd.underlying9 (Kd.own_of_R HO301.out)))
                          repeat (next => (exfalso; rename_i hx_; (try simp only [ByteArray.size_extract, ByteArray.size_append] at c47); (try simp only [ByteArray.size_extract, ByteArray.size_append] at hx_); omega))
                          go_roundg kj9
                          case measure => have := HK1.out; have := HJ9.out; omega
                          case rel => exact ⟨(x3_1 ++ (strOfNums y299)), (wrap64 (x4_1 + 1)), (by first | rfl | (simp; done) | (simp [*]; done)), (by first | rfl | (simp; done) | (simp [*]; done)), H', ⟨by have := HK1.out; have := HJ9.out; omega⟩, ⟨by repeat (first | (with_reducible first | exact HB.out | apply below_alloc | apply pw_below_drewN | apply below_drew1) | exact HB.out)⟩⟩
                        · rw [if_neg c47] at H
                          exact absurd H (by simp)
            · rw [if_neg c8] at H
              exact absurd H (by simp)
          · rw [if_neg c7] at H
            have c7b0 : decide (x4_1 < (a0.size : Int)) = false := decide_eq_false c7
            clear c7
            replace H := Option.bind_eq_some_iff.mp H
            obtain ⟨⟨t265, t268, t271⟩, A510, H⟩ := H
            replace H : (if x3_1.size + 1 ≤ 9223372036854775807 then ((selector_Read.f k1 (x3_1 ++ (⟨#[32]⟩ : ByteArray))).bind fun bt273 => (if (t271 == bt273.2.2) = true then ((selector_Same.f t265 t268 bt273.1 bt273.2.1).bind fun t281 => (some t281)) else (some false))) else (none)) = some r := H
            have A51 := Aside0.mk A510
            clear A510
            by_cases c52 : x3_1.size + 1 ≤ 9223372036854775807
            · rw [if_pos c52] at H
              have c52b0 := eq_true c52
              have c52b1 : decide (x3_1.size + 1 ≤ 9223372036854775807) = true := decide_eq_true c52
              try have c52b2 : (9223372036854775807 < x3_1.size + 1) = False := eq_false (Nat.not_lt.2 c52)
              replace H := Option.bind_eq_some_iff.mp H
              obtain ⟨⟨t273, t276, t279⟩, A530, H⟩ := H
              replace H : (if (t271 == t279) = true then ((selector_Same.f t265 t268 t273 t276).bind fun t281 => (some t281)) else (some false)) = some r := H
              have A53 := Aside0.mk A530
              clear A530
              by_cases c54 : (t271 == t279) = true
              · rw [if_pos c54] at H
                have c54b0 : (t271 == t279) = true := c54
                (try (have c54b1 : decide (t271 = t279) = true := by simpa using c54))
                (try (have c54b2 : (t271 == t279) = true := by simpa using c54))
                clear c54
                replace H := Option.bind_eq_some_iff.mp H
                obtain ⟨t281, A550, H⟩ := H
                replace H : (some t281) = some r := H
                have A55 := Aside0.mk A550
                clear A550
                obtain rfl := Option.some.inj H; clear hrt; try clear H
                go_wp2_with (first | ((with_reducible refine gate_callee (f := 10) rfl ?_); refine goesL_ (some 52) rfl rfl Tryd.func10 (by kernel_rfl) rfl #[.string a0] rfl (by (try simp only [List.map_toArray, List.map_cons, List.map_nil]); first | done | rfl | (simp only [List.length_drop, List.length_take]; rfl)) ?_; (with_reducible refine (selector_Read.calls k1 a0 t265 t268 t271 _ A51.out (HMX.out.below (by repeat (first | (with_reducible first | exact HB.out | apply below_alloc | apply pw_below_drewN | apply below_drew1 | refine below_set ?_ GE272.out | refine below_set ?_ GE280.out) | exact HB.out)))).mono ?_); rintro e w56 ⟨v266, v269, rfl, ho0, ho1, hb⟩; refine ⟨_, rfl, ?_⟩; have n0_ := Aside0.mk (Kd.S_lower ho0 (below_size (by repeat (first | (with_reducible first | exact HB.out | apply below_alloc | apply pw_below_drewN | apply below_drew1) | exact HB.out)))); have n1_ := Aside0.mk (Kd.R_lower ho1 (below_size (by repeat (first | (with_reducible first | exact HB.out | apply below_alloc | apply pw_below_drewN | apply below_drew1) | exact HB.out)))); have n2_ := Aside0.mk (below_step (by repeat (first | (with_reducible first | exact HB.out | apply below_alloc | apply pw_below_drewN | apply below_drew1) | exact HB.out)) hb); clear HB; have HO267 := n0_; have HO270 := n1_; have HB := n2_; clear n0_ n1_ n2_; (try clear hb); (try clear hb2); (try clear hk); (try clear hi); (try clear ho0); (try clear ho1)) | ((with_reducible refine gate_dst (N := 6) rfl ?_); refine box_event ?hg (N := 6) ?hd (cs := #[.slice none 0 0, .slice none 0 0]) (t := 25) ?hr ?_; (case hd => rfl); (case hg => rfl); (case hr => first | (go_simp; done) | (go_simp; rfl)); intro gb272 hg w57 hbox hb; have n0_ := Aside0.mk (Kd.S_below (by (with_reducible repeat (first | apply Kd.S_alloc | apply Kd.S_drewN | apply Kd.S_drew)); exact HO267.out) hb); have n1_ := Aside0.mk (Kd.R_below (by (with_reducible repeat (first | apply Kd.R_alloc | apply Kd.R_drewN | apply Kd.R_drew)); exact HO270.out) hb); have n2_ := Aside0.mk (below_step (by repeat (first | (with_reducible first | exact HB.out | apply below_alloc | apply pw_below_drewN | apply below_drew1) | exact HB.out)) hb); have n3_ := Aside0.mk (hbox); have n4_ := Aside0.mk ((by rw [hg]; exact (below_size (by repeat (first | (with_reducible first | exact HB.out | apply below_alloc | apply pw_below_drewN | apply below_drew1) | exact HB.out))) : w.heap.size ≤ gb272)); have n5_ := Aside0.mk ((by rw [hg]; exact (below_size (by repeat (first | (with_reducible first | exact HB.out | apply below_alloc | apply pw_below_drewN | apply below_drew1) | exact HB.out))) : w.heap.size ≤ gb272)); clear HO267; clear HO270; clear HB; have HO267 := n0_; have HO270 := n1_; have HB := n2_; have BK272 := n3_; have GW272 := n4_; have GE272 := n5_; clear n0_ n1_ n2_ n3_ n4_ n5_; clear hb hbox hg; obtain ⟨Ao58, co58, eo58⟩ := Kd.S_slice HO267.out; subst eo58; have hcz59_0 : w57.cell? ⟨gb272, 0, none⟩ = some (.slice none 0 0) := (blk_cell BK272.out 0).trans rfl; have hcz59_1 : w57.cell? ⟨gb272, 1, none⟩ = some (.slice none 0 0) := (blk_cell BK272.out 1).trans rfl; have hfz59_0 := blk_frozen BK272.out 0; have hfz59_1 := blk_frozen BK272.out 1; obtain ⟨Ao60, co60, eo60⟩ := Kd.R_slice HO270.out; subst eo60) | ((with_reducible refine gate_callee (f := 10) rfl ?_); refine goesL_ (some 58) rfl rfl Tryd.func10 (by kernel_rfl) rfl #[.string (x3_1 ++ (⟨#[32]⟩ : ByteArray))] rfl (by (try simp only [List.map_toArray, List.map_cons, List.map_nil]); first | done | rfl | (simp only [List.length_drop, List.length_take]; rfl)) ?_; (with_reducible refine (selector_Read.calls k1 (x3_1 ++ (⟨#[32]⟩ : ByteArray)) t273 t276 t279 _ A53.out (HMX.out.below (by repeat (first | (with_reducible first | exact HB.out | apply below_alloc | apply pw_below_drewN | apply below_drew1 | refine below_set ?_ GE272.out | refine below_set ?_ GE280.out) | exact HB.out)))).mono ?_); rintro e w61 ⟨v274, v277, rfl, ho0, ho1, hb⟩; refine ⟨_, rfl, ?_⟩; have n0_ := Aside0.mk (Kd.S_elder' (by (with_reducible repeat (first | apply Kd.S_alloc | apply Kd.S_drewN | apply Kd.S_drew)); exact (Kd.S_mono (Kd.S_far (p := ⟨gb272, 1, none⟩) (Kd.S_far (p := ⟨gb272, 0, none⟩) (Kd.S_types HO267.out BK272.out (by decide)) (fun _ hk => hk.2) (.slice Ao58 t265.length co58)) (fun _ hk => hk.2) (.slice Ao60 t268.length co60)) (fun _ h_ => h_.1))) (Kd.S_base ho0) hb); have n1_ := Aside0.mk (Kd.R_elder' (by (with_reducible repeat (first | apply Kd.R_alloc | apply Kd.R_drewN | apply Kd.R_drew)); exact (Kd.R_mono (Kd.R_far (p := ⟨gb272, 1, none⟩) (Kd.R_far (p := ⟨gb272, 0, none⟩) (Kd.R_types HO270.out BK272.out (by decide)) (fun _ hk => hk.2) (.slice Ao58 t265.length co58)) (fun _ hk => hk.2) (.slice Ao60 t268.length co60)) (fun _ h_ => h_.1))) (Kd.R_base ho1) hb); have n2_ := Aside0.mk (Kd.S_lower (Kd.S_new' ho0 (Kd.S_lt (by (with_reducible repeat (first | apply Kd.S_alloc | apply Kd.S_drewN | apply Kd.S_drew)); exact (Kd.S_mono (Kd.S_far (p := ⟨gb272, 1, none⟩) (Kd.S_far (p := ⟨gb272, 0, none⟩) (Kd.S_types HO267.out BK272.out (by decide)) (fun _ hk => hk.2) (.slice Ao58 t265.length co58)) (fun _ hk => hk.2) (.slice Ao60 t268.length co60)) (fun _ h_ => h_.1))))) (below_size (by repeat (first | (with_reducible first | exact HB.out | apply below_alloc | apply pw_below_drewN | apply below_drew1 | refine below_set ?_ GE272.out) | exact HB.out)))); have n3_ := Aside0.mk (Kd.R_lower (Kd.R_new' ho1 (Kd.R_lt (by (with_reducible repeat (first | apply Kd.R_alloc | apply Kd.R_drewN | apply Kd.R_drew)); exact (Kd.R_mono (Kd.R_far (p := ⟨gb272, 1, none⟩) (Kd.R_far (p := ⟨gb272, 0, none⟩) (Kd.R_types HO270.out BK272.out (by decide)) (fun _ hk => hk.2) (.slice Ao58 t265.length co58)) (fun _ hk => hk.2) (.slice Ao60 t268.length co60)) (fun _ h_ => h_.1))))) (below_size (by repeat (first | (with_reducible first | exact HB.out | apply below_alloc | apply pw_below_drewN | apply below_drew1 | refine below_set ?_ GE272.out) | exact HB.out)))); have n4_ := Aside0.mk (blk_below (g := gb272) (o := .cells #[.slice Ao58 t265.length co58, .slice Ao60 t268.length co60] 25 (0, 0)) (by (with_reducible repeat (first | refine blk_drewN ?_ _ | refine blk_drew ?_ | refine blk_alloc ?_ _)); refine blk_put (cs := #[.slice Ao58 t265.length co58, .slice none 0 0]) ?_ 1 _ rfl; (with_reducible repeat (first | refine blk_drewN ?_ _ | refine blk_drew ?_ | refine blk_alloc ?_ _)); refine blk_put (cs := #[.slice none 0 0, .slice none 0 0]) ?_ 0 _ rfl; (with_reducible repeat (first | refine blk_drewN ?_ _ | refine blk_drew ?_ | refine blk_alloc ?_ _)); exact BK272.out) hb); have n5_ := Aside0.mk (below_step (by repeat (first | (with_reducible first | exact HB.out | apply below_alloc | apply pw_below_drewN | apply below_drew1 | refine below_set ?_ GE272.out) | exact HB.out)) hb); clear HO267; clear HO270; clear BK272; clear HB; have HO267 := n0_; have HO270 := n1_; have HO275 := n2_; have HO278 := n3_; have BK272 := n4_; have HB := n5_; clear n0_ n1_ n2_ n3_ n4_ n5_; (try clear hb); (try clear hb2); (try clear hk); (try clear hi); (try clear ho0); (try clear ho1)) | ((with_reducible refine gate_dst (N := 8) rfl ?_); refine box_event ?hg (N := 8) ?hd (cs := #[.slice none 0 0, .slice none 0 0]) (t := 25) ?hr ?_; (case hd => rfl); (case hg => rfl); (case hr => first | (go_simp; done) | (go_simp; rfl)); intro gb280 hg w62 hbox hb; have n0_ := Aside0.mk (Kd.S_below (by (with_reducible repeat (first | apply Kd.S_alloc | apply Kd.S_drewN | apply Kd.S_drew)); exact HO267.out) hb); have n1_ := Aside0.mk (Kd.R_below (by (with_reducible repeat (first | apply Kd.R_alloc | apply Kd.R_drewN | apply Kd.R_drew)); exact HO270.out) hb); have n2_ := Aside0.mk (Kd.S_below (by (with_reducible repeat (first | apply Kd.S_alloc | apply Kd.S_drewN | apply Kd.S_drew)); exact HO275.out) hb); have n3_ := Aside0.mk (Kd.R_below (by (with_reducible repeat (first | apply Kd.R_alloc | apply Kd.R_drewN | apply Kd.R_drew)); exact HO278.out) hb); have n4_ := Aside0.mk (blk_below (g := gb272) (o := .cells #[.slice Ao58 t265.length co58, .slice Ao60 t268.length co60] 25 (0, 0)) (by (with_reducible repeat (first | refine blk_drewN ?_ _ | refine blk_drew ?_ | refine blk_alloc ?_ _)); exact BK272.out) hb); have n5_ := Aside0.mk (below_step (by repeat (first | (with_reducible first | exact HB.out | apply below_alloc | apply pw_below_drewN | apply below_drew1 | refine below_set ?_ GE272.out) | exact HB.out)) hb); have n6_ := Aside0.mk (hbox); have n7_ := Aside0.mk ((by rw [hg]; exact (below_size (by repeat (first | (with_reducible first | exact HB.out | apply below_alloc | apply pw_below_drewN | apply below_drew1 | refine below_set ?_ GE272.out) | exact HB.out))) : w.heap.size ≤ gb280)); have n8_ := Aside0.mk ((by rw [hg]; exact (below_size (by repeat (first | (with_reducible first | exact HB.out | apply below_alloc | apply pw_below_drewN | apply below_drew1 | refine below_set ?_ GE272.out) | exact HB.out))) : w.heap.size ≤ gb280)); have n9_ := Aside0.mk ((by rw [hg]; exact Nat.ne_of_lt (blk_lt (g := gb272) (o := .cells #[.slice Ao58 t265.length co58, .slice Ao60 t268.length co60] 25 (0, 0)) (by (with_reducible repeat (first | refine blk_drewN ?_ _ | refine blk_drew ?_ | refine blk_alloc ?_ _)); exact BK272.out)) : gb272 ≠ gb280)); have n10_ := Aside0.mk ((by rw [hg]; exact Nat.ne_of_gt (blk_lt (g := gb272) (o := .cells #[.slice Ao58 t265.length co58, .slice Ao60 t268.length co60] 25 (0, 0)) (by (with_reducible repeat (first | refine blk_drewN ?_ _ | refine blk_drew ?_ | refine blk_alloc ?_ _)); exact BK272.out)) : gb280 ≠ gb272)); clear HO267; clear HO270; clear HO275; clear HO278; clear BK272; clear HB; have HO267 := n0_; have HO270 := n1_; have HO275 := n2_; have HO278 := n3_; have BK272 := n4_; have HB := n5_; have BK280 := n6_; have GW280 := n7_; have GE280 := n8_; have NB272_280 := n9_; have NB280_272 := n10_; clear n0_ n1_ n2_ n3_ n4_ n5_ n6_ n7_ n8_ n9_ n10_; clear hb hbox hg; obtain ⟨Ao63, co63, eo63⟩ := Kd.S_slice HO275.out; subst eo63; have hnb64 := NB280_272.out; have hnc64 := NB272_280.out; have hcz65_0 : w62.cell? ⟨gb280, 0, none⟩ = some (.slice none 0 0) := (blk_cell BK280.out 0).trans rfl; have hcz65_1 : w62.cell? ⟨gb280, 1, none⟩ = some (.slice none 0 0) := (blk_cell BK280.out 1).trans rfl; have hfz65_0 := blk_frozen BK280.out 0; have hfz65_1 := blk_frozen BK280.out 1; obtain ⟨Ao66, co66, eo66⟩ := Kd.R_slice HO278.out; subst eo66; have hcz67_0 : w62.cell? ⟨gb272, 0, none⟩ = some (.slice Ao58 t265.length co58) := (blk_cell BK272.out 0).trans rfl; have hcz67_1 : w62.cell? ⟨gb272, 1, none⟩ = some (.slice Ao60 t268.length co60) := (blk_cell BK272.out 1).trans rfl; have hfz67_0 := blk_frozen BK272.out 0; have hfz67_1 := blk_frozen BK272.out 1) | (go_at_call 13; (with_reducible refine (selector_Same.calls _ _ t265 _ _ t268 _ _ t273 _ _ t276 t281 _ ?side1 ?side2 ?side3 ?side4 ?side5 ?side6 ?side7 ?side8 A55.out).mono ?_); (case side1 => refine (Kd.S_reads' (e := 44) (base := w.heap.size) (ok := fun k_ => (True ∧ some k_ ≠ (.slice Ao63 t273.length co63 : Value).ownBlock)) (n := t265.length) (c := co58) ?_).2.2; exact (by (with_reducible repeat (first | apply Kd.S_alloc | apply Kd.S_drewN | apply Kd.S_drew)); exact (Kd.S_mono (Kd.S_far (p := ⟨gb280, 1, none⟩) (Kd.S_far (p := ⟨gb280, 0, none⟩) (Kd.S_types HO267.out BK280.out (by decide)) (fun _ hk => hk.2) (.slice Ao63 t273.length co63)) (fun _ hk => hk.2) (.slice Ao66 t276.length co66)) (fun _ h_ => h_.1)))); (case side2 => exact (Kd.S_reads' HO267.out).2.1); (case side3 => refine (Kd.R_reads' (e := 4) (base := w.heap.size) (ok := fun k_ => (True ∧ some k_ ≠ (.slice Ao66 t276.length co66 : Value).ownBlock)) (n := t268.length) (c := co60) ?_).2.2; exact (by (with_reducible repeat (first | apply Kd.R_alloc | apply Kd.R_drewN | apply Kd.R_drew)); exact (Kd.R_mono (Kd.R_far (p := ⟨gb280, 1, none⟩) (Kd.R_far (p := ⟨gb280, 0, none⟩) (Kd.R_types HO270.out BK280.out (by decide)) (fun _ hk => hk.2) (.slice Ao63 t273.length co63)) (fun _ hk => hk.2) (.slice Ao66 t276.length co66)) (fun _ h_ => h_.1)))); (case side4 => exact (Kd.R_reads' HO270.out).2.1); (case side5 => refine (Kd.S_reads' (e := 44) (base := w.heap.size) (ok := fun k_ => (True ∧ some k_ ≠ (.slice Ao58 t265.length co58 : Value).ownBlock)) (n := t273.length) (c := co63) ?_).2.2; exact (by (with_reducible repeat (first | apply Kd.S_alloc | apply Kd.S_drewN | apply Kd.S_drew)); exact (Kd.S_mono (Kd.S_far (p := ⟨gb280, 1, none⟩) (Kd.S_far (p := ⟨gb280, 0, none⟩) (Kd.S_types HO275.out BK280.out (by decide)) (fun _ hk => hk.2) (.slice Ao63 t273.length co63)) (fun _ hk => hk.2) (.slice Ao66 t276.length co66)) (fun _ h_ => h_.1)))); (case side6 => exact (Kd.S_reads' HO275.out).2.1); (case side7 => refine (Kd.R_reads' (e := 4) (base := w.heap.size) (ok := fun k_ => (True ∧ some k_ ≠ (.slice Ao60 t268.length co60 : Value).ownBlock)) (n := t276.length) (c := co66) ?_).2.2; exact (by (with_reducible repeat (first | apply Kd.R_alloc | apply Kd.R_drewN | apply Kd.R_drew)); exact (Kd.R_mono (Kd.R_far (p := ⟨gb280, 1, none⟩) (Kd.R_far (p := ⟨gb280, 0, none⟩) (Kd.R_types HO278.out BK280.out (by decide)) (fun _ hk => hk.2) (.slice Ao63 t273.length co63)) (fun _ hk => hk.2) (.slice Ao66 t276.length co66)) (fun _ h_ => h_.1)))); (case side8 => exact (Kd.R_reads' HO278.out).2.1); rintro e w68 ⟨rfl, hb⟩; have n0_ := Aside0.mk (Kd.S_below (by (with_reducible repeat (first | apply Kd.S_alloc | apply Kd.S_drewN | apply Kd.S_drew)); exact (Kd.S_mono (Kd.S_far (p := ⟨gb280, 1, none⟩) (Kd.S_far (p := ⟨gb280, 0, none⟩) (Kd.S_types HO267.out BK280.out (by decide)) (fun _ hk => hk.2) (.slice Ao63 t273.length co63)) (fun _ hk => hk.2) (.slice Ao66 t276.length co66)) (fun _ h_ => h_.1))) hb); have n1_ := Aside0.mk (Kd.R_below (by (with_reducible repeat (first | apply Kd.R_alloc | apply Kd.R_drewN | apply Kd.R_drew)); exact (Kd.R_mono (Kd.R_far (p := ⟨gb280, 1, none⟩) (Kd.R_far (p := ⟨gb280, 0, none⟩) (Kd.R_types HO270.out BK280.out (by decide)) (fun _ hk => hk.2) (.slice Ao63 t273.length co63)) (fun _ hk => hk.2) (.slice Ao66 t276.length co66)) (fun _ h_ => h_.1))) hb); have n2_ := Aside0.mk (Kd.S_below (by (with_reducible repeat (first | apply Kd.S_alloc | apply Kd.S_drewN | apply Kd.S_drew)); exact (Kd.S_mono (Kd.S_far (p := ⟨gb280, 1, none⟩) (Kd.S_far (p := ⟨gb280, 0, none⟩) (Kd.S_types HO275.out BK280.out (by decide)) (fun _ hk => hk.2) (.slice Ao63 t273.length co63)) (fun _ hk => hk.2) (.slice Ao66 t276.length co66)) (fun _ h_ => h_.1))) hb); have n3_ := Aside0.mk (Kd.R_below (by (with_reducible repeat (first | apply Kd.R_alloc | apply Kd.R_drewN | apply Kd.R_drew)); exact (Kd.R_mono (Kd.R_far (p := ⟨gb280, 1, none⟩) (Kd.R_far (p := ⟨gb280, 0, none⟩) (Kd.R_types HO278.out BK280.out (by decide)) (fun _ hk => hk.2) (.slice Ao63 t273.length co63)) (fun _ hk => hk.2) (.slice Ao66 t276.length co66)) (fun _ h_ => h_.1))) hb); have n4_ := Aside0.mk (blk_below (g := gb272) (o := .cells #[.slice Ao58 t265.length co58, .slice Ao60 t268.length co60] 25 (0, 0)) (by (with_reducible repeat (first | refine blk_drewN ?_ _ | refine blk_drew ?_ | refine blk_alloc ?_ _)); refine blk_far ?_ NB272_280.out _; (with_reducible repeat (first | refine blk_drewN ?_ _ | refine blk_drew ?_ | refine blk_alloc ?_ _)); refine blk_far ?_ NB272_280.out _; (with_reducible repeat (first | refine blk_drewN ?_ _ | refine blk_drew ?_ | refine blk_alloc ?_ _)); exact BK272.out) hb); have n5_ := Aside0.mk (blk_below (g := gb280) (o := .cells #[.slice Ao63 t273.length co63, .slice Ao66 t276.length co66] 25 (0, 0)) (by (with_reducible repeat (first | refine blk_drewN ?_ _ | refine blk_drew ?_ | refine blk_alloc ?_ _)); refine blk_put (cs := #[.slice Ao63 t273.length co63, .slice none 0 0]) ?_ 1 _ rfl; (with_reducible repeat (first | refine blk_drewN ?_ _ | refine blk_drew ?_ | refine blk_alloc ?_ _)); refine blk_put (cs := #[.slice none 0 0, .slice none 0 0]) ?_ 0 _ rfl; (with_reducible repeat (first | refine blk_drewN ?_ _ | refine blk_drew ?_ | refine blk_alloc ?_ _)); exact BK280.out) hb); have n6_ := Aside0.mk (below_step (by repeat (first | (with_reducible first | exact HB.out | apply below_alloc | apply pw_below_drewN | apply below_drew1 | refine below_set ?_ GE272.out | refine below_set ?_ GE280.out) | exact HB.out)) hb); clear HO267; clear HO270; clear HO275; clear HO278; clear BK272; clear BK280; clear HB; have HO267 := n0_; have HO270 := n1_; have HO275 := n2_; have HO278 := n3_; have BK272 := n4_; have BK280 := n5_; have HB := n6_; clear n0_ n1_ n2_ n3_ n4_ n5_ n6_; (try clear hb); (try clear hb2); (try clear hk); (try clear hi)))
                repeat (next => (exfalso; rename_i hx_; (try simp only [ByteArray.size_extract, ByteArray.size_append] at c52); (try simp only [ByteArray.size_extract, ByteArray.size_append] at hx_); omega))
                go_ret
                exact ⟨by first | rfl | (simp [errW_none, errW_some] <;> rfl) | (simp [*, errW_none, errW_some] <;> rfl), by repeat (first | (with_reducible first | exact HB.out | apply below_alloc | apply pw_below_drewN | apply below_drew1 | refine below_set ?_ GE272.out | refine below_set ?_ GE280.out) | exact HB.out)⟩
              · rw [if_neg c54] at H
                have c54b0 : (t271 == t279) = false := by simpa using c54
                (try (have c54b1 : decide (t271 = t279) = false := by simpa using c54))
                (try (have c54b2 : (t271 == t279) = false := by simpa using c54))
                (try (have c54b3 : ¬ (t271 = t279) := by simpa using c54))
                clear c54
                exact absurd ((Option.some.inj H).trans hrt) (by decide)
            · rw [if_neg c52] at H
              exact absurd H (by simp)
  · replace c3 := Bool.eq_false_iff.mpr c3
    subst c3
    have H1 : (some false) = some r := by rw [if_neg (show ¬ (false = true) by decide)] at H; exact H
    clear H
    have H := H1
    clear H1
    exact absurd ((Option.some.inj H).trans hrt) (by decide)

/-- THE ONE PURE STATEMENT of scrimlaw09_SelectorBlanks: yours. -/
def scrimlaw09_SelectorBlanks.Pure : Prop := ∀ (a0 : ByteArray), a0.size ≤ 140737488351232 → ∃ k, scrimlaw09_SelectorBlanks.f k a0 = some true

-- NOT PRINTED: function 5 (scrimlaw09_SelectorWeighs)

end Go.Proofs.YtdifaomkaekglabDoor.HS
