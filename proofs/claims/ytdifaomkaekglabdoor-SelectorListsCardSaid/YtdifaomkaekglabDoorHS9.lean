-- Written by a program of this session (wip/tools/hprint.py), which drives the kit's print; not print.sh's own output.
import Derived.Test.YtdifaomkaekglabDoorHS0
import Derived.Test.YtdifaomkaekglabDoorHS3
import Derived.Test.YtdifaomkaekglabDoorHS4
import Derived.Test.YtdifaomkaekglabDoorHS5
import Derived.Test.YtdifaomkaekglabDoorHS6
namespace Go.Proofs.YtdifaomkaekglabDoor.HS
open Go.RowKit Go.Proofs.YtdifaomkaekglabDoorW.PrintWords Go.Proofs.YtdifaomkaekglabDoorW.PrintLast Go.Proofs.YtdifaomkaekglabDoorW.PrintMore
attribute [local go_sem] max2_int min2_int max_two min_two max_three min_three max_four min_four   -- for this text's walks alone
set_option linter.unusedVariables false
set_option linter.unusedSimpArgs false

/-! ### scrimlaw09_SelectorLists: function 6 -/
mutual
def scrimlaw09_SelectorLists.j0 : Nat → List (S25) → Bool → Option (Bool)
  | 0, _, _ => none
  | k + 1, x0, x19 => if x19 = true then (some true) else (scrimlaw09_SelectorLists.l0 k x0 (⟨#[]⟩ : ByteArray) true x0 (x0.length : Int) 0)
def scrimlaw09_SelectorLists.l0 : Nat → List (S25) → ByteArray → Bool → List (S25) → Int → Int → Option (Bool)
  | 0, _, _, _, _, _, _ => none
  | k + 1, x0, x3, x4, x20, x21, x22 => if x22 < x21 then (if 0 ≤ x22 then (if x22 < (x20.length : Int) then ((scrimlaw09_own.f k ((rd_T25 x20 x22).f0) ((rd_T25 x20 x22).f1)).bind fun bt316 => ((scrimref09_Large.f k bt316.1 bt316.2).bind fun t322 => (if t322 = true then (some true) else (if x22 > 0 then (if x3.size + 2 ≤ 9223372036854775807 then ((selector_Print.f ((rd_T25 x20 x22).f0) ((rd_T25 x20 x22).f1)).bind fun t323 => (if (x3 ++ (⟨#[44, 32]⟩ : ByteArray)).size + t323.size ≤ 9223372036854775807 then (if x4 = true then ((selector_May.f ((rd_T25 x20 x22).f0) ((rd_T25 x20 x22).f1)).bind fun t324 => (scrimlaw09_SelectorLists.l0 k x0 ((x3 ++ (⟨#[44, 32]⟩ : ByteArray)) ++ t323) t324 x20 x21 (wrap64 (x22 + 1)))) else (scrimlaw09_SelectorLists.l0 k x0 ((x3 ++ (⟨#[44, 32]⟩ : ByteArray)) ++ t323) false x20 x21 (wrap64 (x22 + 1)))) else (none))) else (none)) else ((selector_Print.f ((rd_T25 x20 x22).f0) ((rd_T25 x20 x22).f1)).bind fun t325 => (if x3.size + t325.size ≤ 9223372036854775807 then (if x4 = true then ((selector_May.f ((rd_T25 x20 x22).f0) ((rd_T25 x20 x22).f1)).bind fun t326 => (scrimlaw09_SelectorLists.l0 k x0 (x3 ++ t325) t326 x20 x21 (wrap64 (x22 + 1)))) else (scrimlaw09_SelectorLists.l0 k x0 (x3 ++ t325) false x20 x21 (wrap64 (x22 + 1)))) else (none))))))) else (none)) else (none)) else ((selector_List.f k x3).bind fun bt327 => (if (bt327.2 != x4) = true then (scrimlaw09_SelectorLists.j2 k x0 bt327.1 true) else (if bt327.2 = true then (scrimlaw09_SelectorLists.j2 k x0 bt327.1 ((bt327.1.length : Int) != (x0.length : Int))) else (if (bt327.1.length : Int) > 0 then (scrimlaw09_SelectorLists.j2 k x0 bt327.1 true) else (scrimlaw09_SelectorLists.j2 k x0 bt327.1 false)))))
def scrimlaw09_SelectorLists.j2 : Nat → List (S25) → List (S25) → Bool → Option (Bool)
  | 0, _, _, _ => none
  | k + 1, x0, x7, x70 => if x70 = true then (some false) else (scrimlaw09_SelectorLists.l1 k x0 x7 (x7.length : Int) 0)
def scrimlaw09_SelectorLists.l1 : Nat → List (S25) → List (S25) → Int → Int → Option (Bool)
  | 0, _, _, _, _ => none
  | k + 1, x0, x7, x72, x73 => if x73 < x72 then (if 0 ≤ x73 then (if x73 < (x7.length : Int) then (if x73 < (x0.length : Int) then ((selector_Same.f ((rd_T25 x7 x73).f0) ((rd_T25 x7 x73).f1) ((rd_T25 x0 x73).f0) ((rd_T25 x0 x73).f1)).bind fun t333 => (if t333 = true then (scrimlaw09_SelectorLists.l1 k x0 x7 x72 (wrap64 (x73 + 1))) else (some false))) else (none)) else (none)) else (none)) else (some true)
end
def scrimlaw09_SelectorLists.f (k : Nat) (l0 : List (S25)) : Option (Bool) := (scrimlaw09_awake.f k).bind fun t313 => (if t313 = true then (if (l0.length : Int) = 0 then (scrimlaw09_SelectorLists.j0 k l0 true) else (scrimlaw09_SelectorLists.j0 k l0 (decide ((l0.length : Int) > 10)))) else (some false))
theorem scrimlaw09_SelectorLists.mono_l : ∀ k, (∀ y0 y1, LeO (scrimlaw09_SelectorLists.j0 k y0 y1) (scrimlaw09_SelectorLists.j0 (k + 1) y0 y1)) ∧ (∀ y0 y1 y2 y3 y4 y5, LeO (scrimlaw09_SelectorLists.l0 k y0 y1 y2 y3 y4 y5) (scrimlaw09_SelectorLists.l0 (k + 1) y0 y1 y2 y3 y4 y5)) ∧ (∀ y0 y1 y2, LeO (scrimlaw09_SelectorLists.j2 k y0 y1 y2) (scrimlaw09_SelectorLists.j2 (k + 1) y0 y1 y2)) ∧ (∀ y0 y1 y2 y3, LeO (scrimlaw09_SelectorLists.l1 k y0 y1 y2 y3) (scrimlaw09_SelectorLists.l1 (k + 1) y0 y1 y2 y3))
  | 0 => ⟨fun _ _ r h => by simp [scrimlaw09_SelectorLists.j0] at h, fun _ _ _ _ _ _ r h => by simp [scrimlaw09_SelectorLists.l0] at h, fun _ _ _ r h => by simp [scrimlaw09_SelectorLists.j2] at h, fun _ _ _ _ r h => by simp [scrimlaw09_SelectorLists.l1] at h⟩
  | k + 1 => by
    obtain ⟨ih0, ih1, ih2, ih3⟩ := scrimlaw09_SelectorLists.mono_l k
    refine ⟨?_, ?_, ?_, ?_⟩
    · intro y0 y1
      unfold scrimlaw09_SelectorLists.j0
      repeat' first
      | (with_reducible exact ih0 _ _)
      | (with_reducible exact ih1 _ _ _ _ _ _)
      | (with_reducible exact ih2 _ _ _)
      | (with_reducible exact ih3 _ _ _ _)
      | (with_reducible exact scrimlaw09_awake.mono _)
      | (with_reducible exact scrimlaw09_own.mono _ _ _)
      | (with_reducible exact scrimref09_Large.mono _ _ _)
      | (with_reducible exact selector_List.mono _ _)
      | (with_reducible exact LeO.refl _)
      | (with_reducible exact LeO.none _)
      | (with_reducible refine LeO.ite ?_ ?_)
      | (with_reducible refine LeO.bind ?_ (fun _ => ?_))
      | exact ih0 _ _
      | exact ih1 _ _ _ _ _ _
      | exact ih2 _ _ _
      | exact ih3 _ _ _ _
      | exact scrimlaw09_awake.mono _
      | exact scrimlaw09_own.mono _ _ _
      | exact scrimref09_Large.mono _ _ _
      | exact selector_List.mono _ _
      | exact LeO.none _
      | refine LeO.ite ?_ ?_
      | refine LeO.bind ?_ (fun _ => ?_)
    · intro y0 y1 y2 y3 y4 y5
      unfold scrimlaw09_SelectorLists.l0
      repeat' first
      | (with_reducible exact ih0 _ _)
      | (with_reducible exact ih1 _ _ _ _ _ _)
      | (with_reducible exact ih2 _ _ _)
      | (with_reducible exact ih3 _ _ _ _)
      | (with_reducible exact scrimlaw09_awake.mono _)
      | (with_reducible exact scrimlaw09_own.mono _ _ _)
      | (with_reducible exact scrimref09_Large.mono _ _ _)
      | (with_reducible exact selector_List.mono _ _)
      | (with_reducible exact LeO.refl _)
      | (with_reducible exact LeO.none _)
      | (with_reducible refine LeO.ite ?_ ?_)
      | (with_reducible refine LeO.bind ?_ (fun _ => ?_))
      | exact ih0 _ _
      | exact ih1 _ _ _ _ _ _
      | exact ih2 _ _ _
      | exact ih3 _ _ _ _
      | exact scrimlaw09_awake.mono _
      | exact scrimlaw09_own.mono _ _ _
      | exact scrimref09_Large.mono _ _ _
      | exact selector_List.mono _ _
      | exact LeO.none _
      | refine LeO.ite ?_ ?_
      | refine LeO.bind ?_ (fun _ => ?_)
    · intro y0 y1 y2
      unfold scrimlaw09_SelectorLists.j2
      repeat' first
      | (with_reducible exact ih0 _ _)
      | (with_reducible exact ih1 _ _ _ _ _ _)
      | (with_reducible exact ih2 _ _ _)
      | (with_reducible exact ih3 _ _ _ _)
      | (with_reducible exact scrimlaw09_awake.mono _)
      | (with_reducible exact scrimlaw09_own.mono _ _ _)
      | (with_reducible exact scrimref09_Large.mono _ _ _)
      | (with_reducible exact selector_List.mono _ _)
      | (with_reducible exact LeO.refl _)
      | (with_reducible exact LeO.none _)
      | (with_reducible refine LeO.ite ?_ ?_)
      | (with_reducible refine LeO.bind ?_ (fun _ => ?_))
      | exact ih0 _ _
      | exact ih1 _ _ _ _ _ _
      | exact ih2 _ _ _
      | exact ih3 _ _ _ _
      | exact scrimlaw09_awake.mono _
      | exact scrimlaw09_own.mono _ _ _
      | exact scrimref09_Large.mono _ _ _
      | exact selector_List.mono _ _
      | exact LeO.none _
      | refine LeO.ite ?_ ?_
      | refine LeO.bind ?_ (fun _ => ?_)
    · intro y0 y1 y2 y3
      unfold scrimlaw09_SelectorLists.l1
      repeat' first
      | (with_reducible exact ih0 _ _)
      | (with_reducible exact ih1 _ _ _ _ _ _)
      | (with_reducible exact ih2 _ _ _)
      | (with_reducible exact ih3 _ _ _ _)
      | (with_reducible exact scrimlaw09_awake.mono _)
      | (with_reducible exact scrimlaw09_own.mono _ _ _)
      | (with_reducible exact scrimref09_Large.mono _ _ _)
      | (with_reducible exact selector_List.mono _ _)
      | (with_reducible exact LeO.refl _)
      | (with_reducible exact LeO.none _)
      | (with_reducible refine LeO.ite ?_ ?_)
      | (with_reducible refine LeO.bind ?_ (fun _ => ?_))
      | exact ih0 _ _
      | exact ih1 _ _ _ _ _ _
      | exact ih2 _ _ _
      | exact ih3 _ _ _ _
      | exact scrimlaw09_awake.mono _
      | exact scrimlaw09_own.mono _ _ _
      | exact scrimref09_Large.mono _ _ _
      | exact selector_List.mono _ _
      | exact LeO.none _
      | refine LeO.ite ?_ ?_
      | refine LeO.bind ?_ (fun _ => ?_)
theorem scrimlaw09_SelectorLists.mono : ∀ a0 k, LeO (scrimlaw09_SelectorLists.f k a0) (scrimlaw09_SelectorLists.f (k + 1) a0) := by
  intro a0 k
  obtain ⟨ih0, ih1, ih2, ih3⟩ := scrimlaw09_SelectorLists.mono_l k
  unfold scrimlaw09_SelectorLists.f
  repeat' first
      | (with_reducible exact ih0 _ _)
      | (with_reducible exact ih1 _ _ _ _ _ _)
      | (with_reducible exact ih2 _ _ _)
      | (with_reducible exact ih3 _ _ _ _)
      | (with_reducible exact scrimlaw09_awake.mono _)
      | (with_reducible exact scrimlaw09_own.mono _ _ _)
      | (with_reducible exact scrimref09_Large.mono _ _ _)
      | (with_reducible exact selector_List.mono _ _)
      | (with_reducible exact LeO.refl _)
      | (with_reducible exact LeO.none _)
      | (with_reducible refine LeO.ite ?_ ?_)
      | (with_reducible refine LeO.bind ?_ (fun _ => ?_))
      | exact ih0 _ _
      | exact ih1 _ _ _ _ _ _
      | exact ih2 _ _ _
      | exact ih3 _ _ _ _
      | exact scrimlaw09_awake.mono _
      | exact scrimlaw09_own.mono _ _ _
      | exact scrimref09_Large.mono _ _ _
      | exact selector_List.mono _ _
      | exact LeO.none _
      | refine LeO.ite ?_ ?_
      | refine LeO.bind ?_ (fun _ => ?_)
def scrimlaw09_SelectorLists.T22 : Bool × List (List Nat × List Nat) := (true, [([], []), ([], []), ([0, 1], [0, 1]), ([2], [2]), ([], []), ([], []), ([4, 5], [4, 5]), ([6], [6]), ([3, 7], [3, 7]), ([8], [8])])
def scrimlaw09_SelectorLists.B22 : List Nat := [0, 0, 3, 7, 0, 0, 48, 112, 255, 511]
theorem scrimlaw09_SelectorLists.tab22 : rtab .any (opsOf Tryd.f6 22) = scrimlaw09_SelectorLists.T22 := by kernel_rfl
theorem scrimlaw09_SelectorLists.bits22 : waitsOk scrimlaw09_SelectorLists.T22.2 scrimlaw09_SelectorLists.B22 = true := by kernel_rfl
set_option maxHeartbeats 8000000 in
set_option maxRecDepth 100000 in
theorem scrimlaw09_SelectorLists.calls (k : Nat) (A0 : Option Addr) (c0 : Nat) (l0 : List (S25)) (r : Bool) (hrt : r = true) (w : World) (hr0 : Kd.C k25 w A0 l0.length l0) (hc0 : l0.length ≤ c0) (h : scrimlaw09_SelectorLists.f k l0 = some r) (hmx : Go.Proofs.Scn.Mx w) :
    Calls Tryd.prog 6 #[.slice A0 l0.length c0] w fun e w' => e = .returned (.bool r) ∧ Below w.heap.size w w' := by
  have HMX := Aside0.mk hmx
  clear hmx
  have hu25 := Tryd.underlying25
  have HR0 := Aside0.mk hr0
  have HC0 := Aside0.mk hc0
  clear hr0 hc0
  have HB := Aside0.mk (Below.refl w.heap.size w)
  have H : ((scrimlaw09_awake.f k).bind fun t313 => (if t313 = true then (if (l0.length : Int) = 0 then (scrimlaw09_SelectorLists.j0 k l0 true) else (scrimlaw09_SelectorLists.j0 k l0 (decide ((l0.length : Int) > 10)))) else (some false))) = some r := h
  clear h
  replace H := Option.bind_eq_some_iff.mp H
  obtain ⟨t313, A20, H⟩ := H
  replace H : (if t313 = true then (if (l0.length : Int) = 0 then (scrimlaw09_SelectorLists.j0 k l0 true) else (scrimlaw09_SelectorLists.j0 k l0 (decide ((l0.length : Int) > 10)))) else (some false)) = some r := H
  have A2 := Aside0.mk A20
  clear A20
  by_cases c3 : t313 = true
  · subst c3
    have H1 : (if (l0.length : Int) = 0 then (scrimlaw09_SelectorLists.j0 k l0 true) else (scrimlaw09_SelectorLists.j0 k l0 (decide ((l0.length : Int) > 10)))) = some r := by rw [if_pos rfl] at H; exact H
    clear H
    have H := H1
    clear H1
    have HC4 := Aside0.mk H
    clear H
    go_enter Tryd.func6, Tryd.ntmps6
    go_upto_region 3 with (first | ((with_reducible refine gate_callee (f := 7) rfl ?_); refine goesL_ (some 10) rfl rfl Tryd.func7 (by kernel_rfl) rfl #[] rfl (by (try simp only [List.map_toArray, List.map_cons, List.map_nil]); first | done | rfl | (simp only [List.length_drop, List.length_take]; rfl)) ?_; (with_reducible refine (scrimlaw09_awake.calls k  true rfl _ A2.out (HMX.out.below (by repeat (first | (with_reducible first | exact HB.out | apply below_alloc | apply pw_below_drewN | apply below_drew1 | refine below_set ?_ GE315.out) | exact HB.out)))).mono ?_); rintro e w5 ⟨rfl, hb⟩; refine ⟨_, rfl, ?_⟩; have n0_ := Aside0.mk (below_step (by repeat (first | (with_reducible first | exact HB.out | apply below_alloc | apply pw_below_drewN | apply below_drew1) | exact HB.out)) hb); clear HB; have HB := n0_; clear n0_; (try clear hb); (try clear hb2); (try clear hk); (try clear hi)))
    (try simp only [Act.put, List.setIfInBounds_toArray, List.set_cons_zero, List.set_cons_succ])
    go_cut [19] (fun v19 wc => ∃ (kq : Nat) (x19_3 : Bool), v19 = .bool x19_3 ∧ Aside0 (scrimlaw09_SelectorLists.j0 kq l0 x19_3 = some r) ∧ Aside0 (kq ≤ k) ∧ Aside0 (Below w.heap.size w wc))
    case first =>
      have H := HC4.out
      clear HC4
      by_cases c6 : (l0.length : Int) = 0
      · rw [if_pos c6] at H
        have c6b0 : ((l0.length : Int) == 0) = true := beq_iff_eq.mpr c6
        have c6b1 : ((l0.length : Int) != 0) = false := bne_eq_false_iff_eq.mpr c6
        clear c6
        (first | rw [c6b0] | (simp only [i64_w, i32_w]; rw [c6b0]) | skip)
        have H' := Aside0.mk H
        clear H
        go_wp2
        go_meet
        case rel => exact ⟨_, (true), (by first | rfl | (simp; done) | (simp [*]; done)), H', ⟨by first | omega | exact Nat.le_refl _⟩, ⟨by repeat (first | (with_reducible first | exact HB.out | apply below_alloc | apply pw_below_drewN | apply below_drew1) | exact HB.out)⟩⟩
      · rw [if_neg c6] at H
        have c6b0 : ((l0.length : Int) == 0) = false := beq_eq_false_iff_ne.mpr c6
        have c6b1 : ((l0.length : Int) != 0) = true := bne_iff_ne.mpr c6
        have c6b2 : ¬ (l0 = []) := fun h_ => c6 (by rw [h_]; rfl)
        (first | rw [c6b0] | (simp only [i64_w, i32_w]; rw [c6b0]) | skip)
        have H' := Aside0.mk H
        clear H
        go_wp2
        go_meet
        case rel => exact ⟨_, (decide ((l0.length : Int) > 10)), (by first | rfl | (simp; done) | (simp [*]; done)), H', ⟨by first | omega | exact Nat.le_refl _⟩, ⟨by repeat (first | (with_reducible first | exact HB.out | apply below_alloc | apply pw_below_drewN | apply below_drew1) | exact HB.out)⟩⟩
    case rest =>
      clear HC4
      try clear p2
      try clear c3
      try clear c6
      try clear c6b0
      try clear c6b1
      try clear c6b2
      obtain ⟨kq, x19_3, rfl, HA, HJ3, HB⟩ := hcut
      cases kq with
      | zero => exact absurd HA.out (by simp [scrimlaw09_SelectorLists.j0])
      | succ kj3 =>
        have H := HA.out
        clear HA
        simp only [scrimlaw09_SelectorLists.j0] at H
        by_cases c7 : x19_3 = true
        · subst c7
          have H1 : (some true) = some r := by rw [if_pos rfl] at H; exact H
          clear H
          have H := H1
          clear H1
          obtain rfl := Option.some.inj H; clear hrt; try clear H
          go_wp2
          go_ret
          exact ⟨by first | rfl | (simp [errW_none, errW_some] <;> rfl) | (simp [*, errW_none, errW_some] <;> rfl), by repeat (first | (with_reducible first | exact HB.out | apply below_alloc | apply pw_below_drewN | apply below_drew1) | exact HB.out)⟩
        · replace c7 := Bool.eq_false_iff.mpr c7
          subst c7
          have H1 : (scrimlaw09_SelectorLists.l0 kj3 l0 (⟨#[]⟩ : ByteArray) true l0 (l0.length : Int) 0) = some r := by rw [if_neg (show ¬ (false = true) by decide)] at H; exact H
          clear H
          have H := H1
          clear H1
          have H' := Aside0.mk H
          clear H
          go_wp2
          go_loopg [3, 4, 22] kj3 (fun kq v3 v4 v22 w' => ∃ (x3_2 : ByteArray) (x4_2 : Bool) (x22_2 : Int), v3 = .string x3_2 ∧ v4 = .bool x4_2 ∧ v22 = .int .i64 x22_2 ∧ Aside0 (scrimlaw09_SelectorLists.l0 kq l0 x3_2 x4_2 l0 (l0.length : Int) x22_2 = some r) ∧ Aside0 (kq ≤ kj3) ∧ Aside0 (Below w.heap.size w w'))
          case atStart => exact ⟨((⟨#[]⟩ : ByteArray)), (true), (0), (by first | rfl | (simp; done) | (simp [*]; done)), (by first | rfl | (simp; done) | (simp [*]; done)), (by first | rfl | (simp; done) | (simp [*]; done)), H', ⟨Nat.le_refl _⟩, ⟨by repeat (first | (with_reducible first | exact HB.out | apply below_alloc | apply pw_below_drewN | apply below_drew1) | exact HB.out)⟩⟩
          case round =>
            clear H'
            try clear p2
            try clear c3
            try clear c6
            try clear c6b0
            try clear c6b1
            try clear c6b2
            try clear c7
            try clear p2
            obtain ⟨x3_2, x4_2, x22_2, rfl, rfl, rfl, HA, HK2, HB⟩ := hrel
            cases gk with
            | zero => exact absurd HA.out (by simp [scrimlaw09_SelectorLists.l0])
            | succ k2 =>
              have H := HA.out
              clear HA
              simp only [scrimlaw09_SelectorLists.l0] at H
              by_cases c8 : x22_2 < (l0.length : Int)
              · rw [if_pos c8] at H
                have c8b0 : decide (x22_2 < (l0.length : Int)) = true := decide_eq_true c8
                clear c8
                by_cases c9 : 0 ≤ x22_2
                · rw [if_pos c9] at H
                  have c9b0 : decide (0 ≤ x22_2) = true := decide_eq_true c9
                  clear c9
                  by_cases c10 : x22_2 < (l0.length : Int)
                  · rw [if_pos c10] at H
                    have c10b0 : decide (x22_2 < (l0.length : Int)) = true := decide_eq_true c10
                    clear c10
                    replace H := Option.bind_eq_some_iff.mp H
                    obtain ⟨⟨t316, t319⟩, A110, H⟩ := H
                    replace H : ((scrimref09_Large.f k2 t316 t319).bind fun t322 => (if t322 = true then (some true) else (if x22_2 > 0 then (if x3_2.size + 2 ≤ 9223372036854775807 then ((selector_Print.f ((rd_T25 l0 x22_2).f0) ((rd_T25 l0 x22_2).f1)).bind fun t323 => (if (x3_2 ++ (⟨#[44, 32]⟩ : ByteArray)).size + t323.size ≤ 9223372036854775807 then (if x4_2 = true then ((selector_May.f ((rd_T25 l0 x22_2).f0) ((rd_T25 l0 x22_2).f1)).bind fun t324 => (scrimlaw09_SelectorLists.l0 k2 l0 ((x3_2 ++ (⟨#[44, 32]⟩ : ByteArray)) ++ t323) t324 l0 (l0.length : Int) (wrap64 (x22_2 + 1)))) else (scrimlaw09_SelectorLists.l0 k2 l0 ((x3_2 ++ (⟨#[44, 32]⟩ : ByteArray)) ++ t323) false l0 (l0.length : Int) (wrap64 (x22_2 + 1)))) else (none))) else (none)) else ((selector_Print.f ((rd_T25 l0 x22_2).f0) ((rd_T25 l0 x22_2).f1)).bind fun t325 => (if x3_2.size + t325.size ≤ 9223372036854775807 then (if x4_2 = true then ((selector_May.f ((rd_T25 l0 x22_2).f0) ((rd_T25 l0 x22_2).f1)).bind fun t326 => (scrimlaw09_SelectorLists.l0 k2 l0 (x3_2 ++ t325) t326 l0 (l0.length : Int) (wrap64 (x22_2 + 1)))) else (scrimlaw09_SelectorLists.l0 k2 l0 (x3_2 ++ t325) false l0 (l0.length : Int) (wrap64 (x22_2 + 1)))) else (none)))))) = some r := H
                    have A11 := Aside0.mk A110
                    clear A110
                    replace H := Option.bind_eq_some_iff.mp H
                    obtain ⟨t322, A120, H⟩ := H
                    replace H : (if t322 = true then (some true) else (if x22_2 > 0 then (if x3_2.size + 2 ≤ 9223372036854775807 then ((selector_Print.f ((rd_T25 l0 x22_2).f0) ((rd_T25 l0 x22_2).f1)).bind fun t323 => (if (x3_2 ++ (⟨#[44, 32]⟩ : ByteArray)).size + t323.size ≤ 9223372036854775807 then (if x4_2 = true then ((selector_May.f ((rd_T25 l0 x22_2).f0) ((rd_T25 l0 x22_2).f1)).bind fun t324 => (scrimlaw09_SelectorLists.l0 k2 l0 ((x3_2 ++ (⟨#[44, 32]⟩ : ByteArray)) ++ t323) t324 l0 (l0.length : Int) (wrap64 (x22_2 + 1)))) else (scrimlaw09_SelectorLists.l0 k2 l0 ((x3_2 ++ (⟨#[44, 32]⟩ : ByteArray)) ++ t323) false l0 (l0.length : Int) (wrap64 (x22_2 + 1)))) else (none))) else (none)) else ((selector_Print.f ((rd_T25 l0 x22_2).f0) ((rd_T25 l0 x22_2).f1)).bind fun t325 => (if x3_2.size + t325.size ≤ 9223372036854775807 then (if x4_2 = true then ((selector_May.f ((rd_T25 l0 x22_2).f0) ((rd_T25 l0 x22_2).f1)).bind fun t326 => (scrimlaw09_SelectorLists.l0 k2 l0 (x3_2 ++ t325) t326 l0 (l0.length : Int) (wrap64 (x22_2 + 1)))) else (scrimlaw09_SelectorLists.l0 k2 l0 (x3_2 ++ t325) false l0 (l0.length : Int) (wrap64 (x22_2 + 1)))) else (none))))) = some r := H
                    have A12 := Aside0.mk A120
                    clear A120
                    by_cases c13 : t322 = true
                    · subst c13
                      have H1 : (some true) = some r := by rw [if_pos rfl] at H; exact H
                      clear H
                      have H := H1
                      clear H1
                      obtain rfl := Option.some.inj H; clear hrt; try clear H
                      have p314 : 0 ≤ (x22_2 : Int) := of_decide_eq_true (by first | (with_reducible assumption) | assumption)
                      have q314 : x22_2 < (l0.length : Int) := of_decide_eq_true (by first | (with_reducible assumption) | assumption)
                      obtain ⟨ad314, A314_0, c314_0, A314_1, c314_1, e314, hx314_0, hx314_1, hl314_0, hi314_0, hl314_1, hi314_1⟩ := at_T25 HR0.out x22_2 p314 q314
                      cases e314
                      replace hx314_0 := (HB.out.cell (World.block_lt_of_cell? w _ hx314_0)).trans hx314_0
                      replace hx314_1 := (HB.out.cell (World.block_lt_of_cell? w _ hx314_1)).trans hx314_1
                      have HR314_0 := Aside0.mk hi314_0
                      have HC314_0 := Aside0.mk hl314_0
                      clear hi314_0 hl314_0
                      have HR314_1 := Aside0.mk hi314_1
                      have HC314_1 := Aside0.mk hl314_1
                      clear hi314_1 hl314_1
                      replace p314 := eq_true p314
                      replace q314 := eq_true q314
                      go_wp2_with (first | ((with_reducible refine gate_dst (N := 6) rfl ?_); (try (refine gate_guard (by rfl) ?_; dsimp only)); refine box_event ?hg (N := 6) ?hd (cs := #[.slice none 0 0, .slice none 0 0]) (t := 25) ?hr ?_; (case hd => rfl); (case hg => rfl); (case hr => first | (go_simp; done) | (go_simp; rfl)); intro gb315 hg w14 hbox hb; have n0_ := Aside0.mk (below_step (by repeat (first | (with_reducible first | exact HB.out | apply below_alloc | apply pw_below_drewN | apply below_drew1) | exact HB.out)) hb); have n1_ := Aside0.mk (hbox); have n2_ := Aside0.mk ((by rw [hg]; exact (below_size (by repeat (first | (with_reducible first | exact HB.out | apply below_alloc | apply pw_below_drewN | apply below_drew1) | exact HB.out))) : w.heap.size ≤ gb315)); have n3_ := Aside0.mk ((by rw [hg]; exact (below_size (by repeat (first | (with_reducible first | exact HB.out | apply below_alloc | apply pw_below_drewN | apply below_drew1) | exact HB.out))) : w.heap.size ≤ gb315)); clear HB; have HB := n0_; have BK315 := n1_; have GW315 := n2_; have GE315 := n3_; clear n0_ n1_ n2_ n3_; clear hb hbox hg; have hcz15_0 : w14.cell? ⟨gb315, 0, none⟩ = some (.slice none 0 0) := (blk_cell BK315.out 0).trans rfl; have hcz15_1 : w14.cell? ⟨gb315, 1, none⟩ = some (.slice none 0 0) := (blk_cell BK315.out 1).trans rfl; have hfz15_0 := blk_frozen BK315.out 0; have hfz15_1 := blk_frozen BK315.out 1) | ((with_reducible refine gate_store (t := 25) (p := 6) rfl ?_); refine store_event (t := 25) (p := 6) (v := ?vo_w16) (w1 := ((w14.setCell ⟨gb315, 0, none⟩ (.slice A314_0 ((rd_T25 l0 x22_2).f0).length c314_0)).setCell ⟨gb315, 1, none⟩ (.slice A314_1 ((rd_T25 l0 x22_2).f1).length c314_1))) ?hg ?ho ?hn ?hr ?_; (case ho => rfl); (case hg => rfl); (case hn => rfl); (case hr => first | (go_simp; done) | (go_simp; rfl)); intro w16 hw; have n0_ : Aside0 (w16.heap[gb315]? = some (.cells #[.slice A314_0 ((rd_T25 l0 x22_2).f0).length c314_0, .slice A314_1 ((rd_T25 l0 x22_2).f1).length c314_1] 25 (0, 0))) := ⟨(by rw [hw]; exact (by (with_reducible repeat (first | refine blk_drewN ?_ _ | refine blk_drew ?_ | refine blk_alloc ?_ _)); refine blk_put (cs := #[.slice A314_0 ((rd_T25 l0 x22_2).f0).length c314_0, .slice none 0 0]) ?_ 1 _ rfl; (with_reducible repeat (first | refine blk_drewN ?_ _ | refine blk_drew ?_ | refine blk_alloc ?_ _)); refine blk_put (cs := #[.slice none 0 0, .slice none 0 0]) ?_ 0 _ rfl; (with_reducible repeat (first | refine blk_drewN ?_ _ | refine blk_drew ?_ | refine blk_alloc ?_ _)); exact BK315.out))⟩; have n1_ : Aside0 (Below w.heap.size w w16) := ⟨(by rw [hw]; exact (by repeat (first | (with_reducible first | exact HB.out | apply below_alloc | apply pw_below_drewN | apply below_drew1 | refine below_set ?_ GE315.out) | exact HB.out)))⟩; clear hw; clear BK315; clear HB; have BK315 := n0_; have HB := n1_; clear n0_ n1_; have hcz17_0 : w16.cell? ⟨gb315, 0, none⟩ = some (.slice A314_0 ((rd_T25 l0 x22_2).f0).length c314_0) := (blk_cell BK315.out 0).trans rfl; have hcz17_1 : w16.cell? ⟨gb315, 1, none⟩ = some (.slice A314_1 ((rd_T25 l0 x22_2).f1).length c314_1) := (blk_cell BK315.out 1).trans rfl; have hfz17_0 := blk_frozen BK315.out 0; have hfz17_1 := blk_frozen BK315.out 1) | ((with_reducible refine gate_callee (f := 9) rfl ?_); refine goesL_ (some 28) rfl rfl Tryd.func9 (by kernel_rfl) rfl #[.agg #[.slice A314_0 ((rd_T25 l0 x22_2).f0).length c314_0, .slice A314_1 ((rd_T25 l0 x22_2).f1).length c314_1]] rfl (by (try simp only [List.map_toArray, List.map_cons, List.map_nil]); first | done | rfl | (simp only [List.length_drop, List.length_take]; rfl)) ?_; (with_reducible refine (scrimlaw09_own.calls k2 (fun k_ => k_ < w.heap.size) _ _ ((rd_T25 l0 x22_2).f0) (fun k_ => k_ < w.heap.size) _ _ ((rd_T25 l0 x22_2).f1) t316 t319 _ ?side1 ?side2 A11.out).mono ?_); (case side1 => exact Kd.V_mk HC314_0.out (Kd.F_below (Kd.C_F k44_heap HR314_0.out) (by repeat (first | (with_reducible first | exact HB.out | apply below_alloc | apply pw_below_drewN | apply below_drew1 | refine below_set ?_ GE315.out) | exact HB.out)))); (case side2 => exact Kd.V_mk HC314_1.out (Kd.F_below (Kd.C_F Kd.heap_bool HR314_1.out) (by repeat (first | (with_reducible first | exact HB.out | apply below_alloc | apply pw_below_drewN | apply below_drew1 | refine below_set ?_ GE315.out) | exact HB.out)))); rintro e w18 ⟨v317, v320, rfl, ho0, ho1, hb⟩; refine ⟨_, rfl, ?_⟩; have n0_ := Aside0.mk (Kd.N_lower (Kd.N_mono (ok' := fun k_ => k_ ≠ gb315) ho0 (fun k_ hk_ => Or.elim hk_ (fun hs_ => Or.elim hs_ (fun hs_ => fun e_ => Nat.not_le.2 hs_ (by rw [e_]; exact GW315.out)) (fun hs_ => fun e_ => Nat.not_le.2 hs_ (by rw [e_]; exact GW315.out))) (fun hn_ => (Kd.freshB (g := gb315) (o := .cells #[.slice A314_0 ((rd_T25 l0 x22_2).f0).length c314_0, .slice A314_1 ((rd_T25 l0 x22_2).f1).length c314_1] 25 (0, 0)) (by (with_reducible repeat (first | refine blk_drewN ?_ _ | refine blk_drew ?_ | refine blk_alloc ?_ _)); exact BK315.out) k_ hn_)))) (below_size (by repeat (first | (with_reducible first | exact HB.out | apply below_alloc | apply pw_below_drewN | apply below_drew1 | refine below_set ?_ GE315.out) | exact HB.out)))); have n1_ := Aside0.mk (Kd.V_lower (Kd.V_mono (ok' := fun k_ => some k_ ≠ (v317 : Value).ownBlock ∧ k_ ≠ gb315) ho1 (fun k_ hk_ => ⟨hk_.2, Or.elim hk_.1 (fun hs_ => Or.elim hs_ (fun hs_ => fun e_ => Nat.not_le.2 hs_ (by rw [e_]; exact GW315.out)) (fun hs_ => fun e_ => Nat.not_le.2 hs_ (by rw [e_]; exact GW315.out))) (fun hn_ => (Kd.freshB (g := gb315) (o := .cells #[.slice A314_0 ((rd_T25 l0 x22_2).f0).length c314_0, .slice A314_1 ((rd_T25 l0 x22_2).f1).length c314_1] 25 (0, 0)) (by (with_reducible repeat (first | refine blk_drewN ?_ _ | refine blk_drew ?_ | refine blk_alloc ?_ _)); exact BK315.out) k_ hn_))⟩)) (below_size (by repeat (first | (with_reducible first | exact HB.out | apply below_alloc | apply pw_below_drewN | apply below_drew1 | refine below_set ?_ GE315.out) | exact HB.out)))); have n2_ := Aside0.mk (blk_below (g := gb315) (o := .cells #[.slice A314_0 ((rd_T25 l0 x22_2).f0).length c314_0, .slice A314_1 ((rd_T25 l0 x22_2).f1).length c314_1] 25 (0, 0)) (by (with_reducible repeat (first | refine blk_drewN ?_ _ | refine blk_drew ?_ | refine blk_alloc ?_ _)); exact BK315.out) hb); have n3_ := Aside0.mk (below_step (by repeat (first | (with_reducible first | exact HB.out | apply below_alloc | apply pw_below_drewN | apply below_drew1 | refine below_set ?_ GE315.out) | exact HB.out)) hb); clear BK315; clear HB; have HO318 := n0_; have HO321 := n1_; have BK315 := n2_; have HB := n3_; clear n0_ n1_ n2_ n3_; (try clear hb); (try clear hb2); (try clear hk); (try clear hi); (try clear ho0); (try clear ho1); obtain ⟨Ao19, co19, eo19⟩ := Kd.N_slice HO318.out; subst eo19; obtain ⟨Ao20, co20, eo20⟩ := Kd.V_slice HO321.out; subst eo20) | ((with_reducible refine gate_callee (f := 8) rfl ?_); refine goesL_ (some 29) rfl rfl Tryd.func8 (by kernel_rfl) rfl #[.agg #[.slice Ao19 t316.length co19, .slice Ao20 t319.length co20]] rfl (by (try simp only [List.map_toArray, List.map_cons, List.map_nil]); first | done | rfl | (simp only [List.length_drop, List.length_take]; rfl)) ?_; (with_reducible refine (scrimref09_Large.calls k2 _ _ t316 _ _ t319 true _ ?side1 ?side2 ?side3 ?side4 A12.out).mono ?_); (case side1 => repeat (first | exact (Kd.N_reads' HO318.out).2.2 | (with_reducible refine Kd.C_alloc ?_ _) | (with_reducible refine Kd.C_drewN ?_ _) | (with_reducible refine Kd.C_drew ?_))); (case side2 => exact (Kd.N_reads' HO318.out).2.1); (case side3 => repeat (first | exact (Kd.V_reads' HO321.out).2.2 | (with_reducible refine Kd.C_alloc ?_ _) | (with_reducible refine Kd.C_drewN ?_ _) | (with_reducible refine Kd.C_drew ?_))); (case side4 => exact (Kd.V_reads' HO321.out).2.1); rintro e w21 ⟨rfl, hb⟩; refine ⟨_, rfl, ?_⟩; have n0_ := Aside0.mk (Kd.N_below (by (with_reducible repeat (first | apply Kd.N_alloc | apply Kd.N_drewN | apply Kd.N_drew)); exact HO318.out) hb); have n1_ := Aside0.mk (Kd.V_below (by (with_reducible repeat (first | apply Kd.V_alloc | apply Kd.V_drewN | apply Kd.V_drew)); exact HO321.out) hb); have n2_ := Aside0.mk (blk_below (g := gb315) (o := .cells #[.slice A314_0 ((rd_T25 l0 x22_2).f0).length c314_0, .slice A314_1 ((rd_T25 l0 x22_2).f1).length c314_1] 25 (0, 0)) (by (with_reducible repeat (first | refine blk_drewN ?_ _ | refine blk_drew ?_ | refine blk_alloc ?_ _)); exact BK315.out) hb); have n3_ := Aside0.mk (below_step (by repeat (first | (with_reducible first | exact HB.out | apply below_alloc | apply pw_below_drewN | apply below_drew1 | refine below_set ?_ GE315.out) | exact HB.out)) hb); clear HO318; clear HO321; clear BK315; clear HB; have HO318 := n0_; have HO321 := n1_; have BK315 := n2_; have HB := n3_; clear n0_ n1_ n2_ n3_; (try clear hb); (try clear hb2); (try clear hk); (try clear hi)))
                      go_ret
                      exact ⟨by first | rfl | (simp [errW_none, errW_some] <;> rfl) | (simp [*, errW_none, errW_some] <;> rfl), by repeat (first | (with_reducible first | exact HB.out | apply below_alloc | apply pw_below_drewN | apply below_drew1 | refine below_set ?_ GE315.out) | exact HB.out)⟩
                    · replace c13 := Bool.eq_false_iff.mpr c13
                      subst c13
                      have H1 : (if x22_2 > 0 then (if x3_2.size + 2 ≤ 9223372036854775807 then ((selector_Print.f ((rd_T25 l0 x22_2).f0) ((rd_T25 l0 x22_2).f1)).bind fun t323 => (if (x3_2 ++ (⟨#[44, 32]⟩ : ByteArray)).size + t323.size ≤ 9223372036854775807 then (if x4_2 = true then ((selector_May.f ((rd_T25 l0 x22_2).f0) ((rd_T25 l0 x22_2).f1)).bind fun t324 => (scrimlaw09_SelectorLists.l0 k2 l0 ((x3_2 ++ (⟨#[44, 32]⟩ : ByteArray)) ++ t323) t324 l0 (l0.length : Int) (wrap64 (x22_2 + 1)))) else (scrimlaw09_SelectorLists.l0 k2 l0 ((x3_2 ++ (⟨#[44, 32]⟩ : ByteArray)) ++ t323) false l0 (l0.length : Int) (wrap64 (x22_2 + 1)))) else (none))) else (none)) else ((selector_Print.f ((rd_T25 l0 x22_2).f0) ((rd_T25 l0 x22_2).f1)).bind fun t325 => (if x3_2.size + t325.size ≤ 9223372036854775807 then (if x4_2 = true then ((selector_May.f ((rd_T25 l0 x22_2).f0) ((rd_T25 l0 x22_2).f1)).bind fun t326 => (scrimlaw09_SelectorLists.l0 k2 l0 (x3_2 ++ t325) t326 l0 (l0.length : Int) (wrap64 (x22_2 + 1)))) else (scrimlaw09_SelectorLists.l0 k2 l0 (x3_2 ++ t325) false l0 (l0.length : Int) (wrap64 (x22_2 + 1)))) else (none)))) = some r := by rw [if_neg (show ¬ (false = true) by decide)] at H; exact H
                      clear H
                      have H := H1
                      clear H1
                      by_cases c22 : x22_2 > 0
                      · rw [if_pos c22] at H
                        have c22b0 : decide (0 < x22_2) = true := decide_eq_true c22
                        clear c22
                        by_cases c23 : x3_2.size + 2 ≤ 9223372036854775807
                        · rw [if_pos c23] at H
                          have c23b0 := eq_true c23
                          have c23b1 : decide (x3_2.size + 2 ≤ 9223372036854775807) = true := decide_eq_true c23
                          try have c23b2 : (9223372036854775807 < x3_2.size + 2) = False := eq_false (Nat.not_lt.2 c23)
                          replace H := Option.bind_eq_some_iff.mp H
                          obtain ⟨t323, A240, H⟩ := H
                          replace H : (if (x3_2 ++ (⟨#[44, 32]⟩ : ByteArray)).size + t323.size ≤ 9223372036854775807 then (if x4_2 = true then ((selector_May.f ((rd_T25 l0 x22_2).f0) ((rd_T25 l0 x22_2).f1)).bind fun t324 => (scrimlaw09_SelectorLists.l0 k2 l0 ((x3_2 ++ (⟨#[44, 32]⟩ : ByteArray)) ++ t323) t324 l0 (l0.length : Int) (wrap64 (x22_2 + 1)))) else (scrimlaw09_SelectorLists.l0 k2 l0 ((x3_2 ++ (⟨#[44, 32]⟩ : ByteArray)) ++ t323) false l0 (l0.length : Int) (wrap64 (x22_2 + 1)))) else (none)) = some r := H
                          have A24 := Aside0.mk A240
                          clear A240
                          by_cases c25 : (x3_2 ++ (⟨#[44, 32]⟩ : ByteArray)).size + t323.size ≤ 9223372036854775807
                          · rw [if_pos c25] at H
                            have c25b0 := eq_true c25
                            have c25b1 : decide ((x3_2 ++ (⟨#[44, 32]⟩ : ByteArray)).size + t323.size ≤ 9223372036854775807) = true := decide_eq_true c25
                            try have c25b2 : (9223372036854775807 < (x3_2 ++ (⟨#[44, 32]⟩ : ByteArray)).size + t323.size) = False := eq_false (Nat.not_lt.2 c25)
                            by_cases c26 : x4_2 = true
                            · subst c26
                              have H1 : ((selector_May.f ((rd_T25 l0 x22_2).f0) ((rd_T25 l0 x22_2).f1)).bind fun t324 => (scrimlaw09_SelectorLists.l0 k2 l0 ((x3_2 ++ (⟨#[44, 32]⟩ : ByteArray)) ++ t323) t324 l0 (l0.length : Int) (wrap64 (x22_2 + 1)))) = some r := by rw [if_pos rfl] at H; exact H
                              clear H
                              have H := H1
                              clear H1
                              replace H := Option.bind_eq_some_iff.mp H
                              obtain ⟨t324, A270, H⟩ := H
                              replace H : (scrimlaw09_SelectorLists.l0 k2 l0 ((x3_2 ++ (⟨#[44, 32]⟩ : ByteArray)) ++ t323) t324 l0 (l0.length : Int) (wrap64 (x22_2 + 1))) = some r := H
                              have A27 := Aside0.mk A270
                              clear A270
                              have H' := Aside0.mk H
                              clear H
                              have p314 : 0 ≤ (x22_2 : Int) := of_decide_eq_true (by first | (with_reducible assumption) | assumption)
                              have q314 : x22_2 < (l0.length : Int) := of_decide_eq_true (by first | (with_reducible assumption) | assumption)
                              obtain ⟨ad314, A314_0, c314_0, A314_1, c314_1, e314, hx314_0, hx314_1, hl314_0, hi314_0, hl314_1, hi314_1⟩ := at_T25 HR0.out x22_2 p314 q314
                              cases e314
                              replace hx314_0 := (HB.out.cell (World.block_lt_of_cell? w _ hx314_0)).trans hx314_0
                              replace hx314_1 := (HB.out.cell (World.block_lt_of_cell? w _ hx314_1)).trans hx314_1
                              have HR314_0 := Aside0.mk hi314_0
                              have HC314_0 := Aside0.mk hl314_0
                              clear hi314_0 hl314_0
                              have HR314_1 := Aside0.mk hi314_1
                              have HC314_1 := Aside0.mk hl314_1
                              clear hi314_1 hl314_1
                              replace p314 := eq_true p314
                              replace q314 := eq_true q314
                              go_wp2_with (first | ((with_reducible refine gate_dst (N := 6) rfl ?_); (try (refine gate_guard (by rfl) ?_; dsimp only)); refine box_event ?hg (N := 6) ?hd (cs := #[.slice none 0 0, .slice none 0 0]) (t := 25) ?hr ?_; (case hd => rfl); (case hg => rfl); (case hr => first | (go_simp; done) | (go_simp; rfl)); intro gb315 hg w28 hbox hb; have n0_ := Aside0.mk (below_step (by repeat (first | (with_reducible first | exact HB.out | apply below_alloc | apply pw_below_drewN | apply below_drew1) | exact HB.out)) hb); have n1_ := Aside0.mk (hbox); have n2_ := Aside0.mk ((by rw [hg]; exact (below_size (by repeat (first | (with_reducible first | exact HB.out | apply below_alloc | apply pw_below_drewN | apply below_drew1) | exact HB.out))) : w.heap.size ≤ gb315)); have n3_ := Aside0.mk ((by rw [hg]; exact (below_size (by repeat (first | (with_reducible first | exact HB.out | apply below_alloc | apply pw_below_drewN | apply below_drew1) | exact HB.out))) : w.heap.size ≤ gb315)); clear HB; have HB := n0_; have BK315 := n1_; have GW315 := n2_; have GE315 := n3_; clear n0_ n1_ n2_ n3_; clear hb hbox hg; have hcz29_0 : w28.cell? ⟨gb315, 0, none⟩ = some (.slice none 0 0) := (blk_cell BK315.out 0).trans rfl; have hcz29_1 : w28.cell? ⟨gb315, 1, none⟩ = some (.slice none 0 0) := (blk_cell BK315.out 1).trans rfl; have hfz29_0 := blk_frozen BK315.out 0; have hfz29_1 := blk_frozen BK315.out 1) | ((with_reducible refine gate_store (t := 25) (p := 6) rfl ?_); refine store_event (t := 25) (p := 6) (v := ?vo_w30) (w1 := ((w28.setCell ⟨gb315, 0, none⟩ (.slice A314_0 ((rd_T25 l0 x22_2).f0).length c314_0)).setCell ⟨gb315, 1, none⟩ (.slice A314_1 ((rd_T25 l0 x22_2).f1).length c314_1))) ?hg ?ho ?hn ?hr ?_; (case ho => rfl); (case hg => rfl); (case hn => rfl); (case hr => first | (go_simp; done) | (go_simp; rfl)); intro w30 hw; have n0_ : Aside0 (w30.heap[gb315]? = some (.cells #[.slice A314_0 ((rd_T25 l0 x22_2).f0).length c314_0, .slice A314_1 ((rd_T25 l0 x22_2).f1).length c314_1] 25 (0, 0))) := ⟨(by rw [hw]; exact (by (with_reducible repeat (first | refine blk_drewN ?_ _ | refine blk_drew ?_ | refine blk_alloc ?_ _)); refine blk_put (cs := #[.slice A314_0 ((rd_T25 l0 x22_2).f0).length c314_0, .slice none 0 0]) ?_ 1 _ rfl; (with_reducible repeat (first | refine blk_drewN ?_ _ | refine blk_drew ?_ | refine blk_alloc ?_ _)); refine blk_put (cs := #[.slice none 0 0, .slice none 0 0]) ?_ 0 _ rfl; (with_reducible repeat (first | refine blk_drewN ?_ _ | refine blk_drew ?_ | refine blk_alloc ?_ _)); exact BK315.out))⟩; have n1_ : Aside0 (Below w.heap.size w w30) := ⟨(by rw [hw]; exact (by repeat (first | (with_reducible first | exact HB.out | apply below_alloc | apply pw_below_drewN | apply below_drew1 | refine below_set ?_ GE315.out) | exact HB.out)))⟩; clear hw; clear BK315; clear HB; have BK315 := n0_; have HB := n1_; clear n0_ n1_; have hcz31_0 : w30.cell? ⟨gb315, 0, none⟩ = some (.slice A314_0 ((rd_T25 l0 x22_2).f0).length c314_0) := (blk_cell BK315.out 0).trans rfl; have hcz31_1 : w30.cell? ⟨gb315, 1, none⟩ = some (.slice A314_1 ((rd_T25 l0 x22_2).f1).length c314_1) := (blk_cell BK315.out 1).trans rfl; have hfz31_0 := blk_frozen BK315.out 0; have hfz31_1 := blk_frozen BK315.out 1) | ((with_reducible refine gate_callee (f := 9) rfl ?_); refine goesL_ (some 28) rfl rfl Tryd.func9 (by kernel_rfl) rfl #[.agg #[.slice A314_0 ((rd_T25 l0 x22_2).f0).length c314_0, .slice A314_1 ((rd_T25 l0 x22_2).f1).length c314_1]] rfl (by (try simp only [List.map_toArray, List.map_cons, List.map_nil]); first | done | rfl | (simp only [List.length_drop, List.length_take]; rfl)) ?_; (with_reducible refine (scrimlaw09_own.calls k2 (fun k_ => k_ < w.heap.size) _ _ ((rd_T25 l0 x22_2).f0) (fun k_ => k_ < w.heap.size) _ _ ((rd_T25 l0 x22_2).f1) t316 t319 _ ?side1 ?side2 A11.out).mono ?_); (case side1 => exact Kd.V_mk HC314_0.out (Kd.F_below (Kd.C_F k44_heap HR314_0.out) (by repeat (first | (with_reducible first | exact HB.out | apply below_alloc | apply pw_below_drewN | apply below_drew1 | refine below_set ?_ GE315.out) | exact HB.out)))); (case side2 => exact Kd.V_mk HC314_1.out (Kd.F_below (Kd.C_F Kd.heap_bool HR314_1.out) (by repeat (first | (with_reducible first | exact HB.out | apply below_alloc | apply pw_below_drewN | apply below_drew1 | refine below_set ?_ GE315.out) | exact HB.out)))); rintro e w32 ⟨v317, v320, rfl, ho0, ho1, hb⟩; refine ⟨_, rfl, ?_⟩; have n0_ := Aside0.mk (Kd.N_lower (Kd.N_mono (ok' := fun k_ => k_ ≠ gb315) ho0 (fun k_ hk_ => Or.elim hk_ (fun hs_ => Or.elim hs_ (fun hs_ => fun e_ => Nat.not_le.2 hs_ (by rw [e_]; exact GW315.out)) (fun hs_ => fun e_ => Nat.not_le.2 hs_ (by rw [e_]; exact GW315.out))) (fun hn_ => (Kd.freshB (g := gb315) (o := .cells #[.slice A314_0 ((rd_T25 l0 x22_2).f0).length c314_0, .slice A314_1 ((rd_T25 l0 x22_2).f1).length c314_1] 25 (0, 0)) (by (with_reducible repeat (first | refine blk_drewN ?_ _ | refine blk_drew ?_ | refine blk_alloc ?_ _)); exact BK315.out) k_ hn_)))) (below_size (by repeat (first | (with_reducible first | exact HB.out | apply below_alloc | apply pw_below_drewN | apply below_drew1 | refine below_set ?_ GE315.out) | exact HB.out)))); have n1_ := Aside0.mk (Kd.V_lower (Kd.V_mono (ok' := fun k_ => some k_ ≠ (v317 : Value).ownBlock ∧ k_ ≠ gb315) ho1 (fun k_ hk_ => ⟨hk_.2, Or.elim hk_.1 (fun hs_ => Or.elim hs_ (fun hs_ => fun e_ => Nat.not_le.2 hs_ (by rw [e_]; exact GW315.out)) (fun hs_ => fun e_ => Nat.not_le.2 hs_ (by rw [e_]; exact GW315.out))) (fun hn_ => (Kd.freshB (g := gb315) (o := .cells #[.slice A314_0 ((rd_T25 l0 x22_2).f0).length c314_0, .slice A314_1 ((rd_T25 l0 x22_2).f1).length c314_1] 25 (0, 0)) (by (with_reducible repeat (first | refine blk_drewN ?_ _ | refine blk_drew ?_ | refine blk_alloc ?_ _)); exact BK315.out) k_ hn_))⟩)) (below_size (by repeat (first | (with_reducible first | exact HB.out | apply below_alloc | apply pw_below_drewN | apply below_drew1 | refine below_set ?_ GE315.out) | exact HB.out)))); have n2_ := Aside0.mk (blk_below (g := gb315) (o := .cells #[.slice A314_0 ((rd_T25 l0 x22_2).f0).length c314_0, .slice A314_1 ((rd_T25 l0 x22_2).f1).length c314_1] 25 (0, 0)) (by (with_reducible repeat (first | refine blk_drewN ?_ _ | refine blk_drew ?_ | refine blk_alloc ?_ _)); exact BK315.out) hb); have n3_ := Aside0.mk (below_step (by repeat (first | (with_reducible first | exact HB.out | apply below_alloc | apply pw_below_drewN | apply below_drew1 | refine below_set ?_ GE315.out) | exact HB.out)) hb); clear BK315; clear HB; have HO318 := n0_; have HO321 := n1_; have BK315 := n2_; have HB := n3_; clear n0_ n1_ n2_ n3_; (try clear hb); (try clear hb2); (try clear hk); (try clear hi); (try clear ho0); (try clear ho1); obtain ⟨Ao33, co33, eo33⟩ := Kd.N_slice HO318.out; subst eo33; obtain ⟨Ao34, co34, eo34⟩ := Kd.V_slice HO321.out; subst eo34) | ((with_reducible refine gate_callee (f := 8) rfl ?_); refine goesL_ (some 29) rfl rfl Tryd.func8 (by kernel_rfl) rfl #[.agg #[.slice Ao33 t316.length co33, .slice Ao34 t319.length co34]] rfl (by (try simp only [List.map_toArray, List.map_cons, List.map_nil]); first | done | rfl | (simp only [List.length_drop, List.length_take]; rfl)) ?_; (with_reducible refine (scrimref09_Large.calls k2 _ _ t316 _ _ t319 false _ ?side1 ?side2 ?side3 ?side4 A12.out).mono ?_); (case side1 => repeat (first | exact (Kd.N_reads' HO318.out).2.2 | (with_reducible refine Kd.C_alloc ?_ _) | (with_reducible refine Kd.C_drewN ?_ _) | (with_reducible refine Kd.C_drew ?_))); (case side2 => exact (Kd.N_reads' HO318.out).2.1); (case side3 => repeat (first | exact (Kd.V_reads' HO321.out).2.2 | (with_reducible refine Kd.C_alloc ?_ _) | (with_reducible refine Kd.C_drewN ?_ _) | (with_reducible refine Kd.C_drew ?_))); (case side4 => exact (Kd.V_reads' HO321.out).2.1); rintro e w35 ⟨rfl, hb⟩; refine ⟨_, rfl, ?_⟩; have n0_ := Aside0.mk (Kd.N_below (by (with_reducible repeat (first | apply Kd.N_alloc | apply Kd.N_drewN | apply Kd.N_drew)); exact HO318.out) hb); have n1_ := Aside0.mk (Kd.V_below (by (with_reducible repeat (first | apply Kd.V_alloc | apply Kd.V_drewN | apply Kd.V_drew)); exact HO321.out) hb); have n2_ := Aside0.mk (blk_below (g := gb315) (o := .cells #[.slice A314_0 ((rd_T25 l0 x22_2).f0).length c314_0, .slice A314_1 ((rd_T25 l0 x22_2).f1).length c314_1] 25 (0, 0)) (by (with_reducible repeat (first | refine blk_drewN ?_ _ | refine blk_drew ?_ | refine blk_alloc ?_ _)); exact BK315.out) hb); have n3_ := Aside0.mk (below_step (by repeat (first | (with_reducible first | exact HB.out | apply below_alloc | apply pw_below_drewN | apply below_drew1 | refine below_set ?_ GE315.out) | exact HB.out)) hb); clear HO318; clear HO321; clear BK315; clear HB; have HO318 := n0_; have HO321 := n1_; have BK315 := n2_; have HB := n3_; clear n0_ n1_ n2_ n3_; (try clear hb); (try clear hb2); (try clear hk); (try clear hi); have hcz36_0 : w35.cell? ⟨gb315, 0, none⟩ = some (.slice A314_0 ((rd_T25 l0 x22_2).f0).length c314_0) := (blk_cell BK315.out 0).trans rfl; have hcz36_1 : w35.cell? ⟨gb315, 1, none⟩ = some (.slice A314_1 ((rd_T25 l0 x22_2).f1).length c314_1) := (blk_cell BK315.out 1).trans rfl; have hfz36_0 := blk_frozen BK315.out 0; have hfz36_1 := blk_frozen BK315.out 1) | ((with_reducible refine gate_callee (f := 11) rfl ?_); refine goesL_ (some 36) rfl rfl Tryd.func11 (by kernel_rfl) rfl #[.agg #[.slice A314_0 ((rd_T25 l0 x22_2).f0).length c314_0, .slice A314_1 ((rd_T25 l0 x22_2).f1).length c314_1]] rfl (by (try simp only [List.map_toArray, List.map_cons, List.map_nil]); first | done | rfl | (simp only [List.length_drop, List.length_take]; rfl)) ?_; (with_reducible refine (selector_Print.calls _ _ ((rd_T25 l0 x22_2).f0) _ _ ((rd_T25 l0 x22_2).f1) t323 _ ?side1 ?side2 ?side3 ?side4 A24.out).mono ?_); (case side1 => repeat (first | exact (Kd.C_below HR314_0.out HB.out) | (with_reducible refine Kd.C_alloc ?_ _) | (with_reducible refine Kd.C_drewN ?_ _) | (with_reducible refine Kd.C_drew ?_))); (case side2 => exact HC314_0.out); (case side3 => repeat (first | exact (Kd.C_below HR314_1.out HB.out) | (with_reducible refine Kd.C_alloc ?_ _) | (with_reducible refine Kd.C_drewN ?_ _) | (with_reducible refine Kd.C_drew ?_))); (case side4 => exact HC314_1.out); rintro e w37 ⟨rfl, hb⟩; refine ⟨_, rfl, ?_⟩; have n0_ := Aside0.mk (Kd.N_below (by (with_reducible repeat (first | apply Kd.N_alloc | apply Kd.N_drewN | apply Kd.N_drew)); exact HO318.out) hb); have n1_ := Aside0.mk (Kd.V_below (by (with_reducible repeat (first | apply Kd.V_alloc | apply Kd.V_drewN | apply Kd.V_drew)); exact HO321.out) hb); have n2_ := Aside0.mk (blk_below (g := gb315) (o := .cells #[.slice A314_0 ((rd_T25 l0 x22_2).f0).length c314_0, .slice A314_1 ((rd_T25 l0 x22_2).f1).length c314_1] 25 (0, 0)) (by (with_reducible repeat (first | refine blk_drewN ?_ _ | refine blk_drew ?_ | refine blk_alloc ?_ _)); exact BK315.out) hb); have n3_ := Aside0.mk (below_step (by repeat (first | (with_reducible first | exact HB.out | apply below_alloc | apply pw_below_drewN | apply below_drew1 | refine below_set ?_ GE315.out) | exact HB.out)) hb); clear HO318; clear HO321; clear BK315; clear HB; have HO318 := n0_; have HO321 := n1_; have BK315 := n2_; have HB := n3_; clear n0_ n1_ n2_ n3_; (try clear hb); (try clear hb2); (try clear hk); (try clear hi); have hcz38_0 : w37.cell? ⟨gb315, 0, none⟩ = some (.slice A314_0 ((rd_T25 l0 x22_2).f0).length c314_0) := (blk_cell BK315.out 0).trans rfl; have hcz38_1 : w37.cell? ⟨gb315, 1, none⟩ = some (.slice A314_1 ((rd_T25 l0 x22_2).f1).length c314_1) := (blk_cell BK315.out 1).trans rfl; have hfz38_0 := blk_frozen BK315.out 0; have hfz38_1 := blk_frozen BK315.out 1) | (go_at_call 12; (with_reducible refine (selector_May.calls _ _ ((rd_T25 l0 x22_2).f0) _ _ ((rd_T25 l0 x22_2).f1) t324 _ ?side1 ?side2 ?side3 ?side4 A27.out).mono ?_); (case side1 => repeat (first | exact (Kd.C_below HR314_0.out HB.out) | (with_reducible refine Kd.C_alloc ?_ _) | (with_reducible refine Kd.C_drewN ?_ _) | (with_reducible refine Kd.C_drew ?_))); (case side2 => exact HC314_0.out); (case side3 => repeat (first | exact (Kd.C_below HR314_1.out HB.out) | (with_reducible refine Kd.C_alloc ?_ _) | (with_reducible refine Kd.C_drewN ?_ _) | (with_reducible refine Kd.C_drew ?_))); (case side4 => exact HC314_1.out); rintro e w39 ⟨rfl, hb⟩; have n0_ := Aside0.mk (Kd.N_below (by (with_reducible repeat (first | apply Kd.N_alloc | apply Kd.N_drewN | apply Kd.N_drew)); exact HO318.out) hb); have n1_ := Aside0.mk (Kd.V_below (by (with_reducible repeat (first | apply Kd.V_alloc | apply Kd.V_drewN | apply Kd.V_drew)); exact HO321.out) hb); have n2_ := Aside0.mk (blk_below (g := gb315) (o := .cells #[.slice A314_0 ((rd_T25 l0 x22_2).f0).length c314_0, .slice A314_1 ((rd_T25 l0 x22_2).f1).length c314_1] 25 (0, 0)) (by (with_reducible repeat (first | refine blk_drewN ?_ _ | refine blk_drew ?_ | refine blk_alloc ?_ _)); exact BK315.out) hb); have n3_ := Aside0.mk (below_step (by repeat (first | (with_reducible first | exact HB.out | apply below_alloc | apply pw_below_drewN | apply below_drew1 | refine below_set ?_ GE315.out) | exact HB.out)) hb); clear HO318; clear HO321; clear BK315; clear HB; have HO318 := n0_; have HO321 := n1_; have BK315 := n2_; have HB := n3_; clear n0_ n1_ n2_ n3_; (try clear hb); (try clear hb2); (try clear hk); (try clear hi)))
                              repeat (next => (exfalso; rename_i hx_; have : ByteArray.size ⟨#[44, 32]⟩ = 2 := rfl; (try simp only [ByteArray.size_extract, ByteArray.size_append] at c23); (try simp only [ByteArray.size_extract, ByteArray.size_append] at c25); (try simp only [ByteArray.size_extract, ByteArray.size_append] at hx_); omega))
                              go_roundg k2
                              case measure => have := HJ3.out; have := HK2.out; omega
                              case rel => exact ⟨((x3_2 ++ (⟨#[44, 32]⟩ : ByteArray)) ++ t323), (t324), (wrap64 (x22_2 + 1)), (by first | rfl | (simp; done) | (simp [*]; done)), (by first | rfl | (simp; done) | (simp [*]; done)), (by first | rfl | (simp; done) | (simp [*]; done)), H', ⟨by have := HJ3.out; have := HK2.out; omega⟩, ⟨by repeat (first | (with_reducible first | exact HB.out | apply below_alloc | apply pw_below_drewN | apply below_drew1 | refine below_set ?_ GE315.out) | exact HB.out)⟩⟩
                            · replace c26 := Bool.eq_false_iff.mpr c26
                              subst c26
                              have H1 : (scrimlaw09_SelectorLists.l0 k2 l0 ((x3_2 ++ (⟨#[44, 32]⟩ : ByteArray)) ++ t323) false l0 (l0.length : Int) (wrap64 (x22_2 + 1))) = some r := by rw [if_neg (show ¬ (false = true) by decide)] at H; exact H
                              clear H
                              have H := H1
                              clear H1
                              have H' := Aside0.mk H
                              clear H
                              have p314 : 0 ≤ (x22_2 : Int) := of_decide_eq_true (by first | (with_reducible assumption) | assumption)
                              have q314 : x22_2 < (l0.length : Int) := of_decide_eq_true (by first | (with_reducible assumption) | assumption)
                              obtain ⟨ad314, A314_0, c314_0, A314_1, c314_1, e314, hx314_0, hx314_1, hl314_0, hi314_0, hl314_1, hi314_1⟩ := at_T25 HR0.out x22_2 p314 q314
                              cases e314
                              replace hx314_0 := (HB.out.cell (World.block_lt_of_cell? w _ hx314_0)).trans hx314_0
                              replace hx314_1 := (HB.out.cell (World.block_lt_of_cell? w _ hx314_1)).trans hx314_1
                              have HR314_0 := Aside0.mk hi314_0
                              have HC314_0 := Aside0.mk hl314_0
                              clear hi314_0 hl314_0
                              have HR314_1 := Aside0.mk hi314_1
                              have HC314_1 := Aside0.mk hl314_1
                              clear hi314_1 hl314_1
                              replace p314 := eq_true p314
                              replace q314 := eq_true q314
                              go_wp2_with (first | ((with_reducible refine gate_dst (N := 6) rfl ?_); (try (refine gate_guard (by rfl) ?_; dsimp only)); refine box_event ?hg (N := 6) ?hd (cs := #[.slice none 0 0, .slice none 0 0]) (t := 25) ?hr ?_; (case hd => rfl); (case hg => rfl); (case hr => first | (go_simp; done) | (go_simp; rfl)); intro gb315 hg w40 hbox hb; have n0_ := Aside0.mk (below_step (by repeat (first | (with_reducible first | exact HB.out | apply below_alloc | apply pw_below_drewN | apply below_drew1) | exact HB.out)) hb); have n1_ := Aside0.mk (hbox); have n2_ := Aside0.mk ((by rw [hg]; exact (below_size (by repeat (first | (with_reducible first | exact HB.out | apply below_alloc | apply pw_below_drewN | apply below_drew1) | exact HB.out))) : w.heap.size ≤ gb315)); have n3_ := Aside0.mk ((by rw [hg]; exact (below_size (by repeat (first | (with_reducible first | exact HB.out | apply below_alloc | apply pw_below_drewN | apply below_drew1) | exact HB.out))) : w.heap.size ≤ gb315)); clear HB; have HB := n0_; have BK315 := n1_; have GW315 := n2_; have GE315 := n3_; clear n0_ n1_ n2_ n3_; clear hb hbox hg; have hcz41_0 : w40.cell? ⟨gb315, 0, none⟩ = some (.slice none 0 0) := (blk_cell BK315.out 0).trans rfl; have hcz41_1 : w40.cell? ⟨gb315, 1, none⟩ = some (.slice none 0 0) := (blk_cell BK315.out 1).trans rfl; have hfz41_0 := blk_frozen BK315.out 0; have hfz41_1 := blk_frozen BK315.out 1) | ((with_reducible refine gate_store (t := 25) (p := 6) rfl ?_); refine store_event (t := 25) (p := 6) (v := ?vo_w42) (w1 := ((w40.setCell ⟨gb315, 0, none⟩ (.slice A314_0 ((rd_T25 l0 x22_2).f0).length c314_0)).setCell ⟨gb315, 1, none⟩ (.slice A314_1 ((rd_T25 l0 x22_2).f1).length c314_1))) ?hg ?ho ?hn ?hr ?_; (case ho => rfl); (case hg => rfl); (case hn => rfl); (case hr => first | (go_simp; done) | (go_simp; rfl)); intro w42 hw; have n0_ : Aside0 (w42.heap[gb315]? = some (.cells #[.slice A314_0 ((rd_T25 l0 x22_2).f0).length c314_0, .slice A314_1 ((rd_T25 l0 x22_2).f1).length c314_1] 25 (0, 0))) := ⟨(by rw [hw]; exact (by (with_reducible repeat (first | refine blk_drewN ?_ _ | refine blk_drew ?_ | refine blk_alloc ?_ _)); refine blk_put (cs := #[.slice A314_0 ((rd_T25 l0 x22_2).f0).length c314_0, .slice none 0 0]) ?_ 1 _ rfl; (with_reducible repeat (first | refine blk_drewN ?_ _ | refine blk_drew ?_ | refine blk_alloc ?_ _)); refine blk_put (cs := #[.slice none 0 0, .slice none 0 0]) ?_ 0 _ rfl; (with_reducible repeat (first | refine blk_drewN ?_ _ | refine blk_drew ?_ | refine blk_alloc ?_ _)); exact BK315.out))⟩; have n1_ : Aside0 (Below w.heap.size w w42) := ⟨(by rw [hw]; exact (by repeat (first | (with_reducible first | exact HB.out | apply below_alloc | apply pw_below_drewN | apply below_drew1 | refine below_set ?_ GE315.out) | exact HB.out)))⟩; clear hw; clear BK315; clear HB; have BK315 := n0_; have HB := n1_; clear n0_ n1_; have hcz43_0 : w42.cell? ⟨gb315, 0, none⟩ = some (.slice A314_0 ((rd_T25 l0 x22_2).f0).length c314_0) := (blk_cell BK315.out 0).trans rfl; have hcz43_1 : w42.cell? ⟨gb315, 1, none⟩ = some (.slice A314_1 ((rd_T25 l0 x22_2).f1).length c314_1) := (blk_cell BK315.out 1).trans rfl; have hfz43_0 := blk_frozen BK315.out 0; have hfz43_1 := blk_frozen BK315.out 1) | ((with_reducible refine gate_callee (f := 9) rfl ?_); refine goesL_ (some 28) rfl rfl Tryd.func9 (by kernel_rfl) rfl #[.agg #[.slice A314_0 ((rd_T25 l0 x22_2).f0).length c314_0, .slice A314_1 ((rd_T25 l0 x22_2).f1).length c314_1]] rfl (by (try simp only [List.map_toArray, List.map_cons, List.map_nil]); first | done | rfl | (simp only [List.length_drop, List.length_take]; rfl)) ?_; (with_reducible refine (scrimlaw09_own.calls k2 (fun k_ => k_ < w.heap.size) _ _ ((rd_T25 l0 x22_2).f0) (fun k_ => k_ < w.heap.size) _ _ ((rd_T25 l0 x22_2).f1) t316 t319 _ ?side1 ?side2 A11.out).mono ?_); (case side1 => exact Kd.V_mk HC314_0.out (Kd.F_below (Kd.C_F k44_heap HR314_0.out) (by repeat (first | (with_reducible first | exact HB.out | apply below_alloc | apply pw_below_drewN | apply below_drew1 | refine below_set ?_ GE315.out) | exact HB.out)))); (case side2 => exact Kd.V_mk HC314_1.out (Kd.F_below (Kd.C_F Kd.heap_bool HR314_1.out) (by repeat (first | (with_reducible first | exact HB.out | apply below_alloc | apply pw_below_drewN | apply below_drew1 | refine below_set ?_ GE315.out) | exact HB.out)))); rintro e w44 ⟨v317, v320, rfl, ho0, ho1, hb⟩; refine ⟨_, rfl, ?_⟩; have n0_ := Aside0.mk (Kd.N_lower (Kd.N_mono (ok' := fun k_ => k_ ≠ gb315) ho0 (fun k_ hk_ => Or.elim hk_ (fun hs_ => Or.elim hs_ (fun hs_ => fun e_ => Nat.not_le.2 hs_ (by rw [e_]; exact GW315.out)) (fun hs_ => fun e_ => Nat.not_le.2 hs_ (by rw [e_]; exact GW315.out))) (fun hn_ => (Kd.freshB (g := gb315) (o := .cells #[.slice A314_0 ((rd_T25 l0 x22_2).f0).length c314_0, .slice A314_1 ((rd_T25 l0 x22_2).f1).length c314_1] 25 (0, 0)) (by (with_reducible repeat (first | refine blk_drewN ?_ _ | refine blk_drew ?_ | refine blk_alloc ?_ _)); exact BK315.out) k_ hn_)))) (below_size (by repeat (first | (with_reducible first | exact HB.out | apply below_alloc | apply pw_below_drewN | apply below_drew1 | refine below_set ?_ GE315.out) | exact HB.out)))); have n1_ := Aside0.mk (Kd.V_lower (Kd.V_mono (ok' := fun k_ => some k_ ≠ (v317 : Value).ownBlock ∧ k_ ≠ gb315) ho1 (fun k_ hk_ => ⟨hk_.2, Or.elim hk_.1 (fun hs_ => Or.elim hs_ (fun hs_ => fun e_ => Nat.not_le.2 hs_ (by rw [e_]; exact GW315.out)) (fun hs_ => fun e_ => Nat.not_le.2 hs_ (by rw [e_]; exact GW315.out))) (fun hn_ => (Kd.freshB (g := gb315) (o := .cells #[.slice A314_0 ((rd_T25 l0 x22_2).f0).length c314_0, .slice A314_1 ((rd_T25 l0 x22_2).f1).length c314_1] 25 (0, 0)) (by (with_reducible repeat (first | refine blk_drewN ?_ _ | refine blk_drew ?_ | refine blk_alloc ?_ _)); exact BK315.out) k_ hn_))⟩)) (below_size (by repeat (first | (with_reducible first | exact HB.out | apply below_alloc | apply pw_below_drewN | apply below_drew1 | refine below_set ?_ GE315.out) | exact HB.out)))); have n2_ := Aside0.mk (blk_below (g := gb315) (o := .cells #[.slice A314_0 ((rd_T25 l0 x22_2).f0).length c314_0, .slice A314_1 ((rd_T25 l0 x22_2).f1).length c314_1] 25 (0, 0)) (by (with_reducible repeat (first | refine blk_drewN ?_ _ | refine blk_drew ?_ | refine blk_alloc ?_ _)); exact BK315.out) hb); have n3_ := Aside0.mk (below_step (by repeat (first | (with_reducible first | exact HB.out | apply below_alloc | apply pw_below_drewN | apply below_drew1 | refine below_set ?_ GE315.out) | exact HB.out)) hb); clear BK315; clear HB; have HO318 := n0_; have HO321 := n1_; have BK315 := n2_; have HB := n3_; clear n0_ n1_ n2_ n3_; (try clear hb); (try clear hb2); (try clear hk); (try clear hi); (try clear ho0); (try clear ho1); obtain ⟨Ao45, co45, eo45⟩ := Kd.N_slice HO318.out; subst eo45; obtain ⟨Ao46, co46, eo46⟩ := Kd.V_slice HO321.out; subst eo46) | ((with_reducible refine gate_callee (f := 8) rfl ?_); refine goesL_ (some 29) rfl rfl Tryd.func8 (by kernel_rfl) rfl #[.agg #[.slice Ao45 t316.length co45, .slice Ao46 t319.length co46]] rfl (by (try simp only [List.map_toArray, List.map_cons, List.map_nil]); first | done | rfl | (simp only [List.length_drop, List.length_take]; rfl)) ?_; (with_reducible refine (scrimref09_Large.calls k2 _ _ t316 _ _ t319 false _ ?side1 ?side2 ?side3 ?side4 A12.out).mono ?_); (case side1 => repeat (first | exact (Kd.N_reads' HO318.out).2.2 | (with_reducible refine Kd.C_alloc ?_ _) | (with_reducible refine Kd.C_drewN ?_ _) | (with_reducible refine Kd.C_drew ?_))); (case side2 => exact (Kd.N_reads' HO318.out).2.1); (case side3 => repeat (first | exact (Kd.V_reads' HO321.out).2.2 | (with_reducible refine Kd.C_alloc ?_ _) | (with_reducible refine Kd.C_drewN ?_ _) | (with_reducible refine Kd.C_drew ?_))); (case side4 => exact (Kd.V_reads' HO321.out).2.1); rintro e w47 ⟨rfl, hb⟩; refine ⟨_, rfl, ?_⟩; have n0_ := Aside0.mk (Kd.N_below (by (with_reducible repeat (first | apply Kd.N_alloc | apply Kd.N_drewN | apply Kd.N_drew)); exact HO318.out) hb); have n1_ := Aside0.mk (Kd.V_below (by (with_reducible repeat (first | apply Kd.V_alloc | apply Kd.V_drewN | apply Kd.V_drew)); exact HO321.out) hb); have n2_ := Aside0.mk (blk_below (g := gb315) (o := .cells #[.slice A314_0 ((rd_T25 l0 x22_2).f0).length c314_0, .slice A314_1 ((rd_T25 l0 x22_2).f1).length c314_1] 25 (0, 0)) (by (with_reducible repeat (first | refine blk_drewN ?_ _ | refine blk_drew ?_ | refine blk_alloc ?_ _)); exact BK315.out) hb); have n3_ := Aside0.mk (below_step (by repeat (first | (with_reducible first | exact HB.out | apply below_alloc | apply pw_below_drewN | apply below_drew1 | refine below_set ?_ GE315.out) | exact HB.out)) hb); clear HO318; clear HO321; clear BK315; clear HB; have HO318 := n0_; have HO321 := n1_; have BK315 := n2_; have HB := n3_; clear n0_ n1_ n2_ n3_; (try clear hb); (try clear hb2); (try clear hk); (try clear hi); have hcz48_0 : w47.cell? ⟨gb315, 0, none⟩ = some (.slice A314_0 ((rd_T25 l0 x22_2).f0).length c314_0) := (blk_cell BK315.out 0).trans rfl; have hcz48_1 : w47.cell? ⟨gb315, 1, none⟩ = some (.slice A314_1 ((rd_T25 l0 x22_2).f1).length c314_1) := (blk_cell BK315.out 1).trans rfl; have hfz48_0 := blk_frozen BK315.out 0; have hfz48_1 := blk_frozen BK315.out 1) | ((with_reducible refine gate_callee (f := 11) rfl ?_); refine goesL_ (some 36) rfl rfl Tryd.func11 (by kernel_rfl) rfl #[.agg #[.slice A314_0 ((rd_T25 l0 x22_2).f0).length c314_0, .slice A314_1 ((rd_T25 l0 x22_2).f1).length c314_1]] rfl (by (try simp only [List.map_toArray, List.map_cons, List.map_nil]); first | done | rfl | (simp only [List.length_drop, List.length_take]; rfl)) ?_; (with_reducible refine (selector_Print.calls _ _ ((rd_T25 l0 x22_2).f0) _ _ ((rd_T25 l0 x22_2).f1) t323 _ ?side1 ?side2 ?side3 ?side4 A24.out).mono ?_); (case side1 => repeat (first | exact (Kd.C_below HR314_0.out HB.out) | (with_reducible refine Kd.C_alloc ?_ _) | (with_reducible refine Kd.C_drewN ?_ _) | (with_reducible refine Kd.C_drew ?_))); (case side2 => exact HC314_0.out); (case side3 => repeat (first | exact (Kd.C_below HR314_1.out HB.out) | (with_reducible refine Kd.C_alloc ?_ _) | (with_reducible refine Kd.C_drewN ?_ _) | (with_reducible refine Kd.C_drew ?_))); (case side4 => exact HC314_1.out); rintro e w49 ⟨rfl, hb⟩; refine ⟨_, rfl, ?_⟩; have n0_ := Aside0.mk (Kd.N_below (by (with_reducible repeat (first | apply Kd.N_alloc | apply Kd.N_drewN | apply Kd.N_drew)); exact HO318.out) hb); have n1_ := Aside0.mk (Kd.V_below (by (with_reducible repeat (first | apply Kd.V_alloc | apply Kd.V_drewN | apply Kd.V_drew)); exact HO321.out) hb); have n2_ := Aside0.mk (blk_below (g := gb315) (o := .cells #[.slice A314_0 ((rd_T25 l0 x22_2).f0).length c314_0, .slice A314_1 ((rd_T25 l0 x22_2).f1).length c314_1] 25 (0, 0)) (by (with_reducible repeat (first | refine blk_drewN ?_ _ | refine blk_drew ?_ | refine blk_alloc ?_ _)); exact BK315.out) hb); have n3_ := Aside0.mk (below_step (by repeat (first | (with_reducible first | exact HB.out | apply below_alloc | apply pw_below_drewN | apply below_drew1 | refine below_set ?_ GE315.out) | exact HB.out)) hb); clear HO318; clear HO321; clear BK315; clear HB; have HO318 := n0_; have HO321 := n1_; have BK315 := n2_; have HB := n3_; clear n0_ n1_ n2_ n3_; (try clear hb); (try clear hb2); (try clear hk); (try clear hi)))
                              repeat (next => (exfalso; rename_i hx_; have : ByteArray.size ⟨#[44, 32]⟩ = 2 := rfl; (try simp only [ByteArray.size_extract, ByteArray.size_append] at c23); (try simp only [ByteArray.size_extract, ByteArray.size_append] at c25); (try simp only [ByteArray.size_extract, ByteArray.size_append] at hx_); omega))
                              go_roundg k2
                              case measure => have := HJ3.out; have := HK2.out; omega
                              case rel => exact ⟨((x3_2 ++ (⟨#[44, 32]⟩ : ByteArray)) ++ t323), (false), (wrap64 (x22_2 + 1)), (by first | rfl | (simp; done) | (simp [*]; done)), (by first | rfl | (simp; done) | (simp [*]; done)), (by first | rfl | (simp; done) | (simp [*]; done)), H', ⟨by have := HJ3.out; have := HK2.out; omega⟩, ⟨by repeat (first | (with_reducible first | exact HB.out | apply below_alloc | apply pw_below_drewN | apply below_drew1 | refine below_set ?_ GE315.out) | exact HB.out)⟩⟩
                          · rw [if_neg c25] at H
                            exact absurd H (by simp)
                        · rw [if_neg c23] at H
                          exact absurd H (by simp)
                      · rw [if_neg c22] at H
                        have c22b0 : decide (0 < x22_2) = false := decide_eq_false c22
                        clear c22
                        replace H := Option.bind_eq_some_iff.mp H
                        obtain ⟨t325, A500, H⟩ := H
                        replace H : (if x3_2.size + t325.size ≤ 9223372036854775807 then (if x4_2 = true then ((selector_May.f ((rd_T25 l0 x22_2).f0) ((rd_T25 l0 x22_2).f1)).bind fun t326 => (scrimlaw09_SelectorLists.l0 k2 l0 (x3_2 ++ t325) t326 l0 (l0.length : Int) (wrap64 (x22_2 + 1)))) else (scrimlaw09_SelectorLists.l0 k2 l0 (x3_2 ++ t325) false l0 (l0.length : Int) (wrap64 (x22_2 + 1)))) else (none)) = some r := H
                        have A50 := Aside0.mk A500
                        clear A500
                        by_cases c51 : x3_2.size + t325.size ≤ 9223372036854775807
                        · rw [if_pos c51] at H
                          have c51b0 := eq_true c51
                          have c51b1 : decide (x3_2.size + t325.size ≤ 9223372036854775807) = true := decide_eq_true c51
                          try have c51b2 : (9223372036854775807 < x3_2.size + t325.size) = False := eq_false (Nat.not_lt.2 c51)
                          by_cases c52 : x4_2 = true
                          · subst c52
                            have H1 : ((selector_May.f ((rd_T25 l0 x22_2).f0) ((rd_T25 l0 x22_2).f1)).bind fun t326 => (scrimlaw09_SelectorLists.l0 k2 l0 (x3_2 ++ t325) t326 l0 (l0.length : Int) (wrap64 (x22_2 + 1)))) = some r := by rw [if_pos rfl] at H; exact H
                            clear H
                            have H := H1
                            clear H1
                            replace H := Option.bind_eq_some_iff.mp H
                            obtain ⟨t326, A530, H⟩ := H
                            replace H : (scrimlaw09_SelectorLists.l0 k2 l0 (x3_2 ++ t325) t326 l0 (l0.length : Int) (wrap64 (x22_2 + 1))) = some r := H
                            have A53 := Aside0.mk A530
                            clear A530
                            have H' := Aside0.mk H
                            clear H
                            have p314 : 0 ≤ (x22_2 : Int) := of_decide_eq_true (by first | (with_reducible assumption) | assumption)
                            have q314 : x22_2 < (l0.length : Int) := of_decide_eq_true (by first | (with_reducible assumption) | assumption)
                            obtain ⟨ad314, A314_0, c314_0, A314_1, c314_1, e314, hx314_0, hx314_1, hl314_0, hi314_0, hl314_1, hi314_1⟩ := at_T25 HR0.out x22_2 p314 q314
                            cases e314
                            replace hx314_0 := (HB.out.cell (World.block_lt_of_cell? w _ hx314_0)).trans hx314_0
                            replace hx314_1 := (HB.out.cell (World.block_lt_of_cell? w _ hx314_1)).trans hx314_1
                            have HR314_0 := Aside0.mk hi314_0
                            have HC314_0 := Aside0.mk hl314_0
                            clear hi314_0 hl314_0
                            have HR314_1 := Aside0.mk hi314_1
                            have HC314_1 := Aside0.mk hl314_1
                            clear hi314_1 hl314_1
                            replace p314 := eq_true p314
                            replace q314 := eq_true q314
                            go_wp2_with (first | ((with_reducible refine gate_dst (N := 6) rfl ?_); (try (refine gate_guard (by rfl) ?_; dsimp only)); refine box_event ?hg (N := 6) ?hd (cs := #[.slice none 0 0, .slice none 0 0]) (t := 25) ?hr ?_; (case hd => rfl); (case hg => rfl); (case hr => first | (go_simp; done) | (go_simp; rfl)); intro gb315 hg w54 hbox hb; have n0_ := Aside0.mk (below_step (by repeat (first | (with_reducible first | exact HB.out | apply below_alloc | apply pw_below_drewN | apply below_drew1) | exact HB.out)) hb); have n1_ := Aside0.mk (hbox); have n2_ := Aside0.mk ((by rw [hg]; exact (below_size (by repeat (first | (with_reducible first | exact HB.out | apply below_alloc | apply pw_below_drewN | apply below_drew1) | exact HB.out))) : w.heap.size ≤ gb315)); have n3_ := Aside0.mk ((by rw [hg]; exact (below_size (by repeat (first | (with_reducible first | exact HB.out | apply below_alloc | apply pw_below_drewN | apply below_drew1) | exact HB.out))) : w.heap.size ≤ gb315)); clear HB; have HB := n0_; have BK315 := n1_; have GW315 := n2_; have GE315 := n3_; clear n0_ n1_ n2_ n3_; clear hb hbox hg; have hcz55_0 : w54.cell? ⟨gb315, 0, none⟩ = some (.slice none 0 0) := (blk_cell BK315.out 0).trans rfl; have hcz55_1 : w54.cell? ⟨gb315, 1, none⟩ = some (.slice none 0 0) := (blk_cell BK315.out 1).trans rfl; have hfz55_0 := blk_frozen BK315.out 0; have hfz55_1 := blk_frozen BK315.out 1) | ((with_reducible refine gate_store (t := 25) (p := 6) rfl ?_); refine store_event (t := 25) (p := 6) (v := ?vo_w56) (w1 := ((w54.setCell ⟨gb315, 0, none⟩ (.slice A314_0 ((rd_T25 l0 x22_2).f0).length c314_0)).setCell ⟨gb315, 1, none⟩ (.slice A314_1 ((rd_T25 l0 x22_2).f1).length c314_1))) ?hg ?ho ?hn ?hr ?_; (case ho => rfl); (case hg => rfl); (case hn => rfl); (case hr => first | (go_simp; done) | (go_simp; rfl)); intro w56 hw; have n0_ : Aside0 (w56.heap[gb315]? = some (.cells #[.slice A314_0 ((rd_T25 l0 x22_2).f0).length c314_0, .slice A314_1 ((rd_T25 l0 x22_2).f1).length c314_1] 25 (0, 0))) := ⟨(by rw [hw]; exact (by (with_reducible repeat (first | refine blk_drewN ?_ _ | refine blk_drew ?_ | refine blk_alloc ?_ _)); refine blk_put (cs := #[.slice A314_0 ((rd_T25 l0 x22_2).f0).length c314_0, .slice none 0 0]) ?_ 1 _ rfl; (with_reducible repeat (first | refine blk_drewN ?_ _ | refine blk_drew ?_ | refine blk_alloc ?_ _)); refine blk_put (cs := #[.slice none 0 0, .slice none 0 0]) ?_ 0 _ rfl; (with_reducible repeat (first | refine blk_drewN ?_ _ | refine blk_drew ?_ | refine blk_alloc ?_ _)); exact BK315.out))⟩; have n1_ : Aside0 (Below w.heap.size w w56) := ⟨(by rw [hw]; exact (by repeat (first | (with_reducible first | exact HB.out | apply below_alloc | apply pw_below_drewN | apply below_drew1 | refine below_set ?_ GE315.out) | exact HB.out)))⟩; clear hw; clear BK315; clear HB; have BK315 := n0_; have HB := n1_; clear n0_ n1_; have hcz57_0 : w56.cell? ⟨gb315, 0, none⟩ = some (.slice A314_0 ((rd_T25 l0 x22_2).f0).length c314_0) := (blk_cell BK315.out 0).trans rfl; have hcz57_1 : w56.cell? ⟨gb315, 1, none⟩ = some (.slice A314_1 ((rd_T25 l0 x22_2).f1).length c314_1) := (blk_cell BK315.out 1).trans rfl; have hfz57_0 := blk_frozen BK315.out 0; have hfz57_1 := blk_frozen BK315.out 1) | ((with_reducible refine gate_callee (f := 9) rfl ?_); refine goesL_ (some 28) rfl rfl Tryd.func9 (by kernel_rfl) rfl #[.agg #[.slice A314_0 ((rd_T25 l0 x22_2).f0).length c314_0, .slice A314_1 ((rd_T25 l0 x22_2).f1).length c314_1]] rfl (by (try simp only [List.map_toArray, List.map_cons, List.map_nil]); first | done | rfl | (simp only [List.length_drop, List.length_take]; rfl)) ?_; (with_reducible refine (scrimlaw09_own.calls k2 (fun k_ => k_ < w.heap.size) _ _ ((rd_T25 l0 x22_2).f0) (fun k_ => k_ < w.heap.size) _ _ ((rd_T25 l0 x22_2).f1) t316 t319 _ ?side1 ?side2 A11.out).mono ?_); (case side1 => exact Kd.V_mk HC314_0.out (Kd.F_below (Kd.C_F k44_heap HR314_0.out) (by repeat (first | (with_reducible first | exact HB.out | apply below_alloc | apply pw_below_drewN | apply below_drew1 | refine below_set ?_ GE315.out) | exact HB.out)))); (case side2 => exact Kd.V_mk HC314_1.out (Kd.F_below (Kd.C_F Kd.heap_bool HR314_1.out) (by repeat (first | (with_reducible first | exact HB.out | apply below_alloc | apply pw_below_drewN | apply below_drew1 | refine below_set ?_ GE315.out) | exact HB.out)))); rintro e w58 ⟨v317, v320, rfl, ho0, ho1, hb⟩; refine ⟨_, rfl, ?_⟩; have n0_ := Aside0.mk (Kd.N_lower (Kd.N_mono (ok' := fun k_ => k_ ≠ gb315) ho0 (fun k_ hk_ => Or.elim hk_ (fun hs_ => Or.elim hs_ (fun hs_ => fun e_ => Nat.not_le.2 hs_ (by rw [e_]; exact GW315.out)) (fun hs_ => fun e_ => Nat.not_le.2 hs_ (by rw [e_]; exact GW315.out))) (fun hn_ => (Kd.freshB (g := gb315) (o := .cells #[.slice A314_0 ((rd_T25 l0 x22_2).f0).length c314_0, .slice A314_1 ((rd_T25 l0 x22_2).f1).length c314_1] 25 (0, 0)) (by (with_reducible repeat (first | refine blk_drewN ?_ _ | refine blk_drew ?_ | refine blk_alloc ?_ _)); exact BK315.out) k_ hn_)))) (below_size (by repeat (first | (with_reducible first | exact HB.out | apply below_alloc | apply pw_below_drewN | apply below_drew1 | refine below_set ?_ GE315.out) | exact HB.out)))); have n1_ := Aside0.mk (Kd.V_lower (Kd.V_mono (ok' := fun k_ => some k_ ≠ (v317 : Value).ownBlock ∧ k_ ≠ gb315) ho1 (fun k_ hk_ => ⟨hk_.2, Or.elim hk_.1 (fun hs_ => Or.elim hs_ (fun hs_ => fun e_ => Nat.not_le.2 hs_ (by rw [e_]; exact GW315.out)) (fun hs_ => fun e_ => Nat.not_le.2 hs_ (by rw [e_]; exact GW315.out))) (fun hn_ => (Kd.freshB (g := gb315) (o := .cells #[.slice A314_0 ((rd_T25 l0 x22_2).f0).length c314_0, .slice A314_1 ((rd_T25 l0 x22_2).f1).length c314_1] 25 (0, 0)) (by (with_reducible repeat (first | refine blk_drewN ?_ _ | refine blk_drew ?_ | refine blk_alloc ?_ _)); exact BK315.out) k_ hn_))⟩)) (below_size (by repeat (first | (with_reducible first | exact HB.out | apply below_alloc | apply pw_below_drewN | apply below_drew1 | refine below_set ?_ GE315.out) | exact HB.out)))); have n2_ := Aside0.mk (blk_below (g := gb315) (o := .cells #[.slice A314_0 ((rd_T25 l0 x22_2).f0).length c314_0, .slice A314_1 ((rd_T25 l0 x22_2).f1).length c314_1] 25 (0, 0)) (by (with_reducible repeat (first | refine blk_drewN ?_ _ | refine blk_drew ?_ | refine blk_alloc ?_ _)); exact BK315.out) hb); have n3_ := Aside0.mk (below_step (by repeat (first | (with_reducible first | exact HB.out | apply below_alloc | apply pw_below_drewN | apply below_drew1 | refine below_set ?_ GE315.out) | exact HB.out)) hb); clear BK315; clear HB; have HO318 := n0_; have HO321 := n1_; have BK315 := n2_; have HB := n3_; clear n0_ n1_ n2_ n3_; (try clear hb); (try clear hb2); (try clear hk); (try clear hi); (try clear ho0); (try clear ho1); obtain ⟨Ao59, co59, eo59⟩ := Kd.N_slice HO318.out; subst eo59; obtain ⟨Ao60, co60, eo60⟩ := Kd.V_slice HO321.out; subst eo60) | ((with_reducible refine gate_callee (f := 8) rfl ?_); refine goesL_ (some 29) rfl rfl Tryd.func8 (by kernel_rfl) rfl #[.agg #[.slice Ao59 t316.length co59, .slice Ao60 t319.length co60]] rfl (by (try simp only [List.map_toArray, List.map_cons, List.map_nil]); first | done | rfl | (simp only [List.length_drop, List.length_take]; rfl)) ?_; (with_reducible refine (scrimref09_Large.calls k2 _ _ t316 _ _ t319 false _ ?side1 ?side2 ?side3 ?side4 A12.out).mono ?_); (case side1 => repeat (first | exact (Kd.N_reads' HO318.out).2.2 | (with_reducible refine Kd.C_alloc ?_ _) | (with_reducible refine Kd.C_drewN ?_ _) | (with_reducible refine Kd.C_drew ?_))); (case side2 => exact (Kd.N_reads' HO318.out).2.1); (case side3 => repeat (first | exact (Kd.V_reads' HO321.out).2.2 | (with_reducible refine Kd.C_alloc ?_ _) | (with_reducible refine Kd.C_drewN ?_ _) | (with_reducible refine Kd.C_drew ?_))); (case side4 => exact (Kd.V_reads' HO321.out).2.1); rintro e w61 ⟨rfl, hb⟩; refine ⟨_, rfl, ?_⟩; have n0_ := Aside0.mk (Kd.N_below (by (with_reducible repeat (first | apply Kd.N_alloc | apply Kd.N_drewN | apply Kd.N_drew)); exact HO318.out) hb); have n1_ := Aside0.mk (Kd.V_below (by (with_reducible repeat (first | apply Kd.V_alloc | apply Kd.V_drewN | apply Kd.V_drew)); exact HO321.out) hb); have n2_ := Aside0.mk (blk_below (g := gb315) (o := .cells #[.slice A314_0 ((rd_T25 l0 x22_2).f0).length c314_0, .slice A314_1 ((rd_T25 l0 x22_2).f1).length c314_1] 25 (0, 0)) (by (with_reducible repeat (first | refine blk_drewN ?_ _ | refine blk_drew ?_ | refine blk_alloc ?_ _)); exact BK315.out) hb); have n3_ := Aside0.mk (below_step (by repeat (first | (with_reducible first | exact HB.out | apply below_alloc | apply pw_below_drewN | apply below_drew1 | refine below_set ?_ GE315.out) | exact HB.out)) hb); clear HO318; clear HO321; clear BK315; clear HB; have HO318 := n0_; have HO321 := n1_; have BK315 := n2_; have HB := n3_; clear n0_ n1_ n2_ n3_; (try clear hb); (try clear hb2); (try clear hk); (try clear hi); have hcz62_0 : w61.cell? ⟨gb315, 0, none⟩ = some (.slice A314_0 ((rd_T25 l0 x22_2).f0).length c314_0) := (blk_cell BK315.out 0).trans rfl; have hcz62_1 : w61.cell? ⟨gb315, 1, none⟩ = some (.slice A314_1 ((rd_T25 l0 x22_2).f1).length c314_1) := (blk_cell BK315.out 1).trans rfl; have hfz62_0 := blk_frozen BK315.out 0; have hfz62_1 := blk_frozen BK315.out 1) | ((with_reducible refine gate_callee (f := 11) rfl ?_); refine goesL_ (some 36) rfl rfl Tryd.func11 (by kernel_rfl) rfl #[.agg #[.slice A314_0 ((rd_T25 l0 x22_2).f0).length c314_0, .slice A314_1 ((rd_T25 l0 x22_2).f1).length c314_1]] rfl (by (try simp only [List.map_toArray, List.map_cons, List.map_nil]); first | done | rfl | (simp only [List.length_drop, List.length_take]; rfl)) ?_; (with_reducible refine (selector_Print.calls _ _ ((rd_T25 l0 x22_2).f0) _ _ ((rd_T25 l0 x22_2).f1) t325 _ ?side1 ?side2 ?side3 ?side4 A50.out).mono ?_); (case side1 => repeat (first | exact (Kd.C_below HR314_0.out HB.out) | (with_reducible refine Kd.C_alloc ?_ _) | (with_reducible refine Kd.C_drewN ?_ _) | (with_reducible refine Kd.C_drew ?_))); (case side2 => exact HC314_0.out); (case side3 => repeat (first | exact (Kd.C_below HR314_1.out HB.out) | (with_reducible refine Kd.C_alloc ?_ _) | (with_reducible refine Kd.C_drewN ?_ _) | (with_reducible refine Kd.C_drew ?_))); (case side4 => exact HC314_1.out); rintro e w63 ⟨rfl, hb⟩; refine ⟨_, rfl, ?_⟩; have n0_ := Aside0.mk (Kd.N_below (by (with_reducible repeat (first | apply Kd.N_alloc | apply Kd.N_drewN | apply Kd.N_drew)); exact HO318.out) hb); have n1_ := Aside0.mk (Kd.V_below (by (with_reducible repeat (first | apply Kd.V_alloc | apply Kd.V_drewN | apply Kd.V_drew)); exact HO321.out) hb); have n2_ := Aside0.mk (blk_below (g := gb315) (o := .cells #[.slice A314_0 ((rd_T25 l0 x22_2).f0).length c314_0, .slice A314_1 ((rd_T25 l0 x22_2).f1).length c314_1] 25 (0, 0)) (by (with_reducible repeat (first | refine blk_drewN ?_ _ | refine blk_drew ?_ | refine blk_alloc ?_ _)); exact BK315.out) hb); have n3_ := Aside0.mk (below_step (by repeat (first | (with_reducible first | exact HB.out | apply below_alloc | apply pw_below_drewN | apply below_drew1 | refine below_set ?_ GE315.out) | exact HB.out)) hb); clear HO318; clear HO321; clear BK315; clear HB; have HO318 := n0_; have HO321 := n1_; have BK315 := n2_; have HB := n3_; clear n0_ n1_ n2_ n3_; (try clear hb); (try clear hb2); (try clear hk); (try clear hi); have hcz64_0 : w63.cell? ⟨gb315, 0, none⟩ = some (.slice A314_0 ((rd_T25 l0 x22_2).f0).length c314_0) := (blk_cell BK315.out 0).trans rfl; have hcz64_1 : w63.cell? ⟨gb315, 1, none⟩ = some (.slice A314_1 ((rd_T25 l0 x22_2).f1).length c314_1) := (blk_cell BK315.out 1).trans rfl; have hfz64_0 := blk_frozen BK315.out 0; have hfz64_1 := blk_frozen BK315.out 1) | (go_at_call 12; (with_reducible refine (selector_May.calls _ _ ((rd_T25 l0 x22_2).f0) _ _ ((rd_T25 l0 x22_2).f1) t326 _ ?side1 ?side2 ?side3 ?side4 A53.out).mono ?_); (case side1 => repeat (first | exact (Kd.C_below HR314_0.out HB.out) | (with_reducible refine Kd.C_alloc ?_ _) | (with_reducible refine Kd.C_drewN ?_ _) | (with_reducible refine Kd.C_drew ?_))); (case side2 => exact HC314_0.out); (case side3 => repeat (first | exact (Kd.C_below HR314_1.out HB.out) | (with_reducible refine Kd.C_alloc ?_ _) | (with_reducible refine Kd.C_drewN ?_ _) | (with_reducible refine Kd.C_drew ?_))); (case side4 => exact HC314_1.out); rintro e w65 ⟨rfl, hb⟩; have n0_ := Aside0.mk (Kd.N_below (by (with_reducible repeat (first | apply Kd.N_alloc | apply Kd.N_drewN | apply Kd.N_drew)); exact HO318.out) hb); have n1_ := Aside0.mk (Kd.V_below (by (with_reducible repeat (first | apply Kd.V_alloc | apply Kd.V_drewN | apply Kd.V_drew)); exact HO321.out) hb); have n2_ := Aside0.mk (blk_below (g := gb315) (o := .cells #[.slice A314_0 ((rd_T25 l0 x22_2).f0).length c314_0, .slice A314_1 ((rd_T25 l0 x22_2).f1).length c314_1] 25 (0, 0)) (by (with_reducible repeat (first | refine blk_drewN ?_ _ | refine blk_drew ?_ | refine blk_alloc ?_ _)); exact BK315.out) hb); have n3_ := Aside0.mk (below_step (by repeat (first | (with_reducible first | exact HB.out | apply below_alloc | apply pw_below_drewN | apply below_drew1 | refine below_set ?_ GE315.out) | exact HB.out)) hb); clear HO318; clear HO321; clear BK315; clear HB; have HO318 := n0_; have HO321 := n1_; have BK315 := n2_; have HB := n3_; clear n0_ n1_ n2_ n3_; (try clear hb); (try clear hb2); (try clear hk); (try clear hi)))
                            repeat (next => (exfalso; rename_i hx_; (try simp only [ByteArray.size_extract, ByteArray.size_append] at c51); (try simp only [ByteArray.size_extract, ByteArray.size_append] at hx_); omega))
                            go_roundg k2
                            case measure => have := HJ3.out; have := HK2.out; omega
                            case rel => exact ⟨(x3_2 ++ t325), (t326), (wrap64 (x22_2 + 1)), (by first | rfl | (simp; done) | (simp [*]; done)), (by first | rfl | (simp; done) | (simp [*]; done)), (by first | rfl | (simp; done) | (simp [*]; done)), H', ⟨by have := HJ3.out; have := HK2.out; omega⟩, ⟨by repeat (first | (with_reducible first | exact HB.out | apply below_alloc | apply pw_below_drewN | apply below_drew1 | refine below_set ?_ GE315.out) | exact HB.out)⟩⟩
                          · replace c52 := Bool.eq_false_iff.mpr c52
                            subst c52
                            have H1 : (scrimlaw09_SelectorLists.l0 k2 l0 (x3_2 ++ t325) false l0 (l0.length : Int) (wrap64 (x22_2 + 1))) = some r := by rw [if_neg (show ¬ (false = true) by decide)] at H; exact H
                            clear H
                            have H := H1
                            clear H1
                            have H' := Aside0.mk H
                            clear H
                            have p314 : 0 ≤ (x22_2 : Int) := of_decide_eq_true (by first | (with_reducible assumption) | assumption)
                            have q314 : x22_2 < (l0.length : Int) := of_decide_eq_true (by first | (with_reducible assumption) | assumption)
                            obtain ⟨ad314, A314_0, c314_0, A314_1, c314_1, e314, hx314_0, hx314_1, hl314_0, hi314_0, hl314_1, hi314_1⟩ := at_T25 HR0.out x22_2 p314 q314
                            cases e314
                            replace hx314_0 := (HB.out.cell (World.block_lt_of_cell? w _ hx314_0)).trans hx314_0
                            replace hx314_1 := (HB.out.cell (World.block_lt_of_cell? w _ hx314_1)).trans hx314_1
                            have HR314_0 := Aside0.mk hi314_0
                            have HC314_0 := Aside0.mk hl314_0
                            clear hi314_0 hl314_0
                            have HR314_1 := Aside0.mk hi314_1
                            have HC314_1 := Aside0.mk hl314_1
                            clear hi314_1 hl314_1
                            replace p314 := eq_true p314
                            replace q314 := eq_true q314
                            go_wp2_with (first | ((with_reducible refine gate_dst (N := 6) rfl ?_); (try (refine gate_guard (by rfl) ?_; dsimp only)); refine box_event ?hg (N := 6) ?hd (cs := #[.slice none 0 0, .slice none 0 0]) (t := 25) ?hr ?_; (case hd => rfl); (case hg => rfl); (case hr => first | (go_simp; done) | (go_simp; rfl)); intro gb315 hg w66 hbox hb; have n0_ := Aside0.mk (below_step (by repeat (first | (with_reducible first | exact HB.out | apply below_alloc | apply pw_below_drewN | apply below_drew1) | exact HB.out)) hb); have n1_ := Aside0.mk (hbox); have n2_ := Aside0.mk ((by rw [hg]; exact (below_size (by repeat (first | (with_reducible first | exact HB.out | apply below_alloc | apply pw_below_drewN | apply below_drew1) | exact HB.out))) : w.heap.size ≤ gb315)); have n3_ := Aside0.mk ((by rw [hg]; exact (below_size (by repeat (first | (with_reducible first | exact HB.out | apply below_alloc | apply pw_below_drewN | apply below_drew1) | exact HB.out))) : w.heap.size ≤ gb315)); clear HB; have HB := n0_; have BK315 := n1_; have GW315 := n2_; have GE315 := n3_; clear n0_ n1_ n2_ n3_; clear hb hbox hg; have hcz67_0 : w66.cell? ⟨gb315, 0, none⟩ = some (.slice none 0 0) := (blk_cell BK315.out 0).trans rfl; have hcz67_1 : w66.cell? ⟨gb315, 1, none⟩ = some (.slice none 0 0) := (blk_cell BK315.out 1).trans rfl; have hfz67_0 := blk_frozen BK315.out 0; have hfz67_1 := blk_frozen BK315.out 1) | ((with_reducible refine gate_store (t := 25) (p := 6) rfl ?_); refine store_event (t := 25) (p := 6) (v := ?vo_w68) (w1 := ((w66.setCell ⟨gb315, 0, none⟩ (.slice A314_0 ((rd_T25 l0 x22_2).f0).length c314_0)).setCell ⟨gb315, 1, none⟩ (.slice A314_1 ((rd_T25 l0 x22_2).f1).length c314_1))) ?hg ?ho ?hn ?hr ?_; (case ho => rfl); (case hg => rfl); (case hn => rfl); (case hr => first | (go_simp; done) | (go_simp; rfl)); intro w68 hw; have n0_ : Aside0 (w68.heap[gb315]? = some (.cells #[.slice A314_0 ((rd_T25 l0 x22_2).f0).length c314_0, .slice A314_1 ((rd_T25 l0 x22_2).f1).length c314_1] 25 (0, 0))) := ⟨(by rw [hw]; exact (by (with_reducible repeat (first | refine blk_drewN ?_ _ | refine blk_drew ?_ | refine blk_alloc ?_ _)); refine blk_put (cs := #[.slice A314_0 ((rd_T25 l0 x22_2).f0).length c314_0, .slice none 0 0]) ?_ 1 _ rfl; (with_reducible repeat (first | refine blk_drewN ?_ _ | refine blk_drew ?_ | refine blk_alloc ?_ _)); refine blk_put (cs := #[.slice none 0 0, .slice none 0 0]) ?_ 0 _ rfl; (with_reducible repeat (first | refine blk_drewN ?_ _ | refine blk_drew ?_ | refine blk_alloc ?_ _)); exact BK315.out))⟩; have n1_ : Aside0 (Below w.heap.size w w68) := ⟨(by rw [hw]; exact (by repeat (first | (with_reducible first | exact HB.out | apply below_alloc | apply pw_below_drewN | apply below_drew1 | refine below_set ?_ GE315.out) | exact HB.out)))⟩; clear hw; clear BK315; clear HB; have BK315 := n0_; have HB := n1_; clear n0_ n1_; have hcz69_0 : w68.cell? ⟨gb315, 0, none⟩ = some (.slice A314_0 ((rd_T25 l0 x22_2).f0).length c314_0) := (blk_cell BK315.out 0).trans rfl; have hcz69_1 : w68.cell? ⟨gb315, 1, none⟩ = some (.slice A314_1 ((rd_T25 l0 x22_2).f1).length c314_1) := (blk_cell BK315.out 1).trans rfl; have hfz69_0 := blk_frozen BK315.out 0; have hfz69_1 := blk_frozen BK315.out 1) | ((with_reducible refine gate_callee (f := 9) rfl ?_); refine goesL_ (some 28) rfl rfl Tryd.func9 (by kernel_rfl) rfl #[.agg #[.slice A314_0 ((rd_T25 l0 x22_2).f0).length c314_0, .slice A314_1 ((rd_T25 l0 x22_2).f1).length c314_1]] rfl (by (try simp only [List.map_toArray, List.map_cons, List.map_nil]); first | done | rfl | (simp only [List.length_drop, List.length_take]; rfl)) ?_; (with_reducible refine (scrimlaw09_own.calls k2 (fun k_ => k_ < w.heap.size) _ _ ((rd_T25 l0 x22_2).f0) (fun k_ => k_ < w.heap.size) _ _ ((rd_T25 l0 x22_2).f1) t316 t319 _ ?side1 ?side2 A11.out).mono ?_); (case side1 => exact Kd.V_mk HC314_0.out (Kd.F_below (Kd.C_F k44_heap HR314_0.out) (by repeat (first | (with_reducible first | exact HB.out | apply below_alloc | apply pw_below_drewN | apply below_drew1 | refine below_set ?_ GE315.out) | exact HB.out)))); (case side2 => exact Kd.V_mk HC314_1.out (Kd.F_below (Kd.C_F Kd.heap_bool HR314_1.out) (by repeat (first | (with_reducible first | exact HB.out | apply below_alloc | apply pw_below_drewN | apply below_drew1 | refine below_set ?_ GE315.out) | exact HB.out)))); rintro e w70 ⟨v317, v320, rfl, ho0, ho1, hb⟩; refine ⟨_, rfl, ?_⟩; have n0_ := Aside0.mk (Kd.N_lower (Kd.N_mono (ok' := fun k_ => k_ ≠ gb315) ho0 (fun k_ hk_ => Or.elim hk_ (fun hs_ => Or.elim hs_ (fun hs_ => fun e_ => Nat.not_le.2 hs_ (by rw [e_]; exact GW315.out)) (fun hs_ => fun e_ => Nat.not_le.2 hs_ (by rw [e_]; exact GW315.out))) (fun hn_ => (Kd.freshB (g := gb315) (o := .cells #[.slice A314_0 ((rd_T25 l0 x22_2).f0).length c314_0, .slice A314_1 ((rd_T25 l0 x22_2).f1).length c314_1] 25 (0, 0)) (by (with_reducible repeat (first | refine blk_drewN ?_ _ | refine blk_drew ?_ | refine blk_alloc ?_ _)); exact BK315.out) k_ hn_)))) (below_size (by repeat (first | (with_reducible first | exact HB.out | apply below_alloc | apply pw_below_drewN | apply below_drew1 | refine below_set ?_ GE315.out) | exact HB.out)))); have n1_ := Aside0.mk (Kd.V_lower (Kd.V_mono (ok' := fun k_ => some k_ ≠ (v317 : Value).ownBlock ∧ k_ ≠ gb315) ho1 (fun k_ hk_ => ⟨hk_.2, Or.elim hk_.1 (fun hs_ => Or.elim hs_ (fun hs_ => fun e_ => Nat.not_le.2 hs_ (by rw [e_]; exact GW315.out)) (fun hs_ => fun e_ => Nat.not_le.2 hs_ (by rw [e_]; exact GW315.out))) (fun hn_ => (Kd.freshB (g := gb315) (o := .cells #[.slice A314_0 ((rd_T25 l0 x22_2).f0).length c314_0, .slice A314_1 ((rd_T25 l0 x22_2).f1).length c314_1] 25 (0, 0)) (by (with_reducible repeat (first | refine blk_drewN ?_ _ | refine blk_drew ?_ | refine blk_alloc ?_ _)); exact BK315.out) k_ hn_))⟩)) (below_size (by repeat (first | (with_reducible first | exact HB.out | apply below_alloc | apply pw_below_drewN | apply below_drew1 | refine below_set ?_ GE315.out) | exact HB.out)))); have n2_ := Aside0.mk (blk_below (g := gb315) (o := .cells #[.slice A314_0 ((rd_T25 l0 x22_2).f0).length c314_0, .slice A314_1 ((rd_T25 l0 x22_2).f1).length c314_1] 25 (0, 0)) (by (with_reducible repeat (first | refine blk_drewN ?_ _ | refine blk_drew ?_ | refine blk_alloc ?_ _)); exact BK315.out) hb); have n3_ := Aside0.mk (below_step (by repeat (first | (with_reducible first | exact HB.out | apply below_alloc | apply pw_below_drewN | apply below_drew1 | refine below_set ?_ GE315.out) | exact HB.out)) hb); clear BK315; clear HB; have HO318 := n0_; have HO321 := n1_; have BK315 := n2_; have HB := n3_; clear n0_ n1_ n2_ n3_; (try clear hb); (try clear hb2); (try clear hk); (try clear hi); (try clear ho0); (try clear ho1); obtain ⟨Ao71, co71, eo71⟩ := Kd.N_slice HO318.out; subst eo71; obtain ⟨Ao72, co72, eo72⟩ := Kd.V_slice HO321.out; subst eo72) | ((with_reducible refine gate_callee (f := 8) rfl ?_); refine goesL_ (some 29) rfl rfl Tryd.func8 (by kernel_rfl) rfl #[.agg #[.slice Ao71 t316.length co71, .slice Ao72 t319.length co72]] rfl (by (try simp only [List.map_toArray, List.map_cons, List.map_nil]); first | done | rfl | (simp only [List.length_drop, List.length_take]; rfl)) ?_; (with_reducible refine (scrimref09_Large.calls k2 _ _ t316 _ _ t319 false _ ?side1 ?side2 ?side3 ?side4 A12.out).mono ?_); (case side1 => repeat (first | exact (Kd.N_reads' HO318.out).2.2 | (with_reducible refine Kd.C_alloc ?_ _) | (with_reducible refine Kd.C_drewN ?_ _) | (with_reducible refine Kd.C_drew ?_))); (case side2 => exact (Kd.N_reads' HO318.out).2.1); (case side3 => repeat (first | exact (Kd.V_reads' HO321.out).2.2 | (with_reducible refine Kd.C_alloc ?_ _) | (with_reducible refine Kd.C_drewN ?_ _) | (with_reducible refine Kd.C_drew ?_))); (case side4 => exact (Kd.V_reads' HO321.out).2.1); rintro e w73 ⟨rfl, hb⟩; refine ⟨_, rfl, ?_⟩; have n0_ := Aside0.mk (Kd.N_below (by (with_reducible repeat (first | apply Kd.N_alloc | apply Kd.N_drewN | apply Kd.N_drew)); exact HO318.out) hb); have n1_ := Aside0.mk (Kd.V_below (by (with_reducible repeat (first | apply Kd.V_alloc | apply Kd.V_drewN | apply Kd.V_drew)); exact HO321.out) hb); have n2_ := Aside0.mk (blk_below (g := gb315) (o := .cells #[.slice A314_0 ((rd_T25 l0 x22_2).f0).length c314_0, .slice A314_1 ((rd_T25 l0 x22_2).f1).length c314_1] 25 (0, 0)) (by (with_reducible repeat (first | refine blk_drewN ?_ _ | refine blk_drew ?_ | refine blk_alloc ?_ _)); exact BK315.out) hb); have n3_ := Aside0.mk (below_step (by repeat (first | (with_reducible first | exact HB.out | apply below_alloc | apply pw_below_drewN | apply below_drew1 | refine below_set ?_ GE315.out) | exact HB.out)) hb); clear HO318; clear HO321; clear BK315; clear HB; have HO318 := n0_; have HO321 := n1_; have BK315 := n2_; have HB := n3_; clear n0_ n1_ n2_ n3_; (try clear hb); (try clear hb2); (try clear hk); (try clear hi); have hcz74_0 : w73.cell? ⟨gb315, 0, none⟩ = some (.slice A314_0 ((rd_T25 l0 x22_2).f0).length c314_0) := (blk_cell BK315.out 0).trans rfl; have hcz74_1 : w73.cell? ⟨gb315, 1, none⟩ = some (.slice A314_1 ((rd_T25 l0 x22_2).f1).length c314_1) := (blk_cell BK315.out 1).trans rfl; have hfz74_0 := blk_frozen BK315.out 0; have hfz74_1 := blk_frozen BK315.out 1) | ((with_reducible refine gate_callee (f := 11) rfl ?_); refine goesL_ (some 36) rfl rfl Tryd.func11 (by kernel_rfl) rfl #[.agg #[.slice A314_0 ((rd_T25 l0 x22_2).f0).length c314_0, .slice A314_1 ((rd_T25 l0 x22_2).f1).length c314_1]] rfl (by (try simp only [List.map_toArray, List.map_cons, List.map_nil]); first | done | rfl | (simp only [List.length_drop, List.length_take]; rfl)) ?_; (with_reducible refine (selector_Print.calls _ _ ((rd_T25 l0 x22_2).f0) _ _ ((rd_T25 l0 x22_2).f1) t325 _ ?side1 ?side2 ?side3 ?side4 A50.out).mono ?_); (case side1 => repeat (first | exact (Kd.C_below HR314_0.out HB.out) | (with_reducible refine Kd.C_alloc ?_ _) | (with_reducible refine Kd.C_drewN ?_ _) | (with_reducible refine Kd.C_drew ?_))); (case side2 => exact HC314_0.out); (case side3 => repeat (first | exact (Kd.C_below HR314_1.out HB.out) | (with_reducible refine Kd.C_alloc ?_ _) | (with_reducible refine Kd.C_drewN ?_ _) | (with_reducible refine Kd.C_drew ?_))); (case side4 => exact HC314_1.out); rintro e w75 ⟨rfl, hb⟩; refine ⟨_, rfl, ?_⟩; have n0_ := Aside0.mk (Kd.N_below (by (with_reducible repeat (first | apply Kd.N_alloc | apply Kd.N_drewN | apply Kd.N_drew)); exact HO318.out) hb); have n1_ := Aside0.mk (Kd.V_below (by (with_reducible repeat (first | apply Kd.V_alloc | apply Kd.V_drewN | apply Kd.V_drew)); exact HO321.out) hb); have n2_ := Aside0.mk (blk_below (g := gb315) (o := .cells #[.slice A314_0 ((rd_T25 l0 x22_2).f0).length c314_0, .slice A314_1 ((rd_T25 l0 x22_2).f1).length c314_1] 25 (0, 0)) (by (with_reducible repeat (first | refine blk_drewN ?_ _ | refine blk_drew ?_ | refine blk_alloc ?_ _)); exact BK315.out) hb); have n3_ := Aside0.mk (below_step (by repeat (first | (with_reducible first | exact HB.out | apply below_alloc | apply pw_below_drewN | apply below_drew1 | refine below_set ?_ GE315.out) | exact HB.out)) hb); clear HO318; clear HO321; clear BK315; clear HB; have HO318 := n0_; have HO321 := n1_; have BK315 := n2_; have HB := n3_; clear n0_ n1_ n2_ n3_; (try clear hb); (try clear hb2); (try clear hk); (try clear hi)))
                            repeat (next => (exfalso; rename_i hx_; (try simp only [ByteArray.size_extract, ByteArray.size_append] at c51); (try simp only [ByteArray.size_extract, ByteArray.size_append] at hx_); omega))
                            go_roundg k2
                            case measure => have := HJ3.out; have := HK2.out; omega
                            case rel => exact ⟨(x3_2 ++ t325), (false), (wrap64 (x22_2 + 1)), (by first | rfl | (simp; done) | (simp [*]; done)), (by first | rfl | (simp; done) | (simp [*]; done)), (by first | rfl | (simp; done) | (simp [*]; done)), H', ⟨by have := HJ3.out; have := HK2.out; omega⟩, ⟨by repeat (first | (with_reducible first | exact HB.out | apply below_alloc | apply pw_below_drewN | apply below_drew1 | refine below_set ?_ GE315.out) | exact HB.out)⟩⟩
                        · rw [if_neg c51] at H
                          exact absurd H (by simp)
                  · rw [if_neg c10] at H
                    exact absurd H (by simp)
                · rw [if_neg c9] at H
                  exact absurd H (by simp)
              · rw [if_neg c8] at H
                have c8b0 : decide (x22_2 < (l0.length : Int)) = false := decide_eq_false c8
                clear c8
                replace H := Option.bind_eq_some_iff.mp H
                obtain ⟨⟨t327, t328⟩, A760, H⟩ := H
                replace H : (if (t328 != x4_2) = true then (scrimlaw09_SelectorLists.j2 k2 l0 t327 true) else (if t328 = true then (scrimlaw09_SelectorLists.j2 k2 l0 t327 ((t327.length : Int) != (l0.length : Int))) else (if (t327.length : Int) > 0 then (scrimlaw09_SelectorLists.j2 k2 l0 t327 true) else (scrimlaw09_SelectorLists.j2 k2 l0 t327 false)))) = some r := H
                have A76 := Aside0.mk A760
                clear A760
                have HC77 := Aside0.mk H
                clear H
                go_upto_region 17 with (first | ((with_reducible refine gate_callee (f := 16) rfl ?_); refine goesL_ (some 46) rfl rfl Tryd.func16 (by kernel_rfl) rfl #[.string x3_2] rfl (by (try simp only [List.map_toArray, List.map_cons, List.map_nil]); first | done | rfl | (simp only [List.length_drop, List.length_take]; rfl)) ?_; (with_reducible refine (selector_List.calls k2 x3_2 t327 t328 _ A76.out (HMX.out.below (by repeat (first | (with_reducible first | exact HB.out | apply below_alloc | apply pw_below_drewN | apply below_drew1 | refine below_set ?_ GE315.out) | exact HB.out)))).mono ?_); rintro e w78 ⟨v329, rfl, ho0, hb⟩; refine ⟨_, rfl, ?_⟩; have n0_ := Aside0.mk (Kd.N_lower (Kd.N_mono (ok' := fun k_ => True) (Kd.R_N (Kd.R_bound ho0)) (fun k_ hk_ => trivial)) (below_size (by repeat (first | (with_reducible first | exact HB.out | apply below_alloc | apply pw_below_drewN | apply below_drew1) | exact HB.out)))); have n1_ := Aside0.mk (below_step (by repeat (first | (with_reducible first | exact HB.out | apply below_alloc | apply pw_below_drewN | apply below_drew1) | exact HB.out)) hb); clear HB; have HO330 := n0_; have HB := n1_; clear n0_ n1_; (try clear hb); (try clear hb2); (try clear hk); (try clear hi); (try clear ho0)))
                (try simp only [Act.put, List.setIfInBounds_toArray, List.set_cons_zero, List.set_cons_succ])
                go_cut [70] (fun v70 wc => ∃ (kq : Nat) (x70_76 : Bool), v70 = .bool x70_76 ∧ Aside0 (scrimlaw09_SelectorLists.j2 kq l0 t327 x70_76 = some r) ∧ Aside0 (kq ≤ k2) ∧ Aside0 (Kd.N k25 25 wc w.heap.size (fun _ => True) v329 t327) ∧ Aside0 (Below w.heap.size w wc))
                case first =>
                  have H := HC77.out
                  clear HC77
                  by_cases c79 : (t328 != x4_2) = true
                  · rw [if_pos c79] at H
                    have c79b0 : (t328 != x4_2) = true := c79
                    (try (have c79b1 : decide (t328 = x4_2) = false := by simpa using c79))
                    (try (have c79b2 : (t328 == x4_2) = false := by simpa using c79))
                    (try (have c79b3 : ¬ (t328 = x4_2) := by simpa using c79))
                    clear c79
                    (first | rw [c79b0] | (simp only [i64_w, i32_w]; rw [c79b0]) | skip)
                    have H' := Aside0.mk H
                    clear H
                    go_wp2
                    go_meet
                    case rel => exact ⟨_, (true), (by first | rfl | (simp; done) | (simp [*]; done)), H', ⟨by have := HJ3.out; have := HK2.out; first | omega | exact Nat.le_refl _⟩, ⟨by (with_reducible repeat (first | apply Kd.N_alloc | apply Kd.N_drewN | apply Kd.N_drew)); exact HO330.out⟩, ⟨by repeat (first | (with_reducible first | exact HB.out | apply below_alloc | apply pw_below_drewN | apply below_drew1) | exact HB.out)⟩⟩
                  · rw [if_neg c79] at H
                    have c79b0 : (t328 != x4_2) = false := by simpa using c79
                    (try (have c79b1 : decide (t328 = x4_2) = true := by simpa using c79))
                    (try (have c79b2 : (t328 == x4_2) = true := by simpa using c79))
                    clear c79
                    (first | rw [c79b0] | (simp only [i64_w, i32_w]; rw [c79b0]) | skip)
                    by_cases c80 : t328 = true
                    · subst c80
                      have H1 : (scrimlaw09_SelectorLists.j2 k2 l0 t327 ((t327.length : Int) != (l0.length : Int))) = some r := by rw [if_pos rfl] at H; exact H
                      clear H
                      have H := H1
                      clear H1
                      have H' := Aside0.mk H
                      clear H
                      obtain ⟨Ao81, co81, eo81⟩ := Kd.N_slice HO330.out
                      subst eo81
                      go_wp2
                      go_meet
                      case rel => exact ⟨_, (((t327.length : Int) != (l0.length : Int))), (by first | rfl | (simp; done) | (simp [*]; done)), H', ⟨by have := HJ3.out; have := HK2.out; first | omega | exact Nat.le_refl _⟩, ⟨by (with_reducible repeat (first | apply Kd.N_alloc | apply Kd.N_drewN | apply Kd.N_drew)); exact HO330.out⟩, ⟨by repeat (first | (with_reducible first | exact HB.out | apply below_alloc | apply pw_below_drewN | apply below_drew1) | exact HB.out)⟩⟩
                    · replace c80 := Bool.eq_false_iff.mpr c80
                      subst c80
                      have H1 : (if (t327.length : Int) > 0 then (scrimlaw09_SelectorLists.j2 k2 l0 t327 true) else (scrimlaw09_SelectorLists.j2 k2 l0 t327 false)) = some r := by rw [if_neg (show ¬ (false = true) by decide)] at H; exact H
                      clear H
                      have H := H1
                      clear H1
                      by_cases c82 : (t327.length : Int) > 0
                      · rw [if_pos c82] at H
                        have c82b0 : decide (0 < (t327.length : Int)) = true := decide_eq_true c82
                        have c82b1 : decide (0 < t327.length) = true := decide_eq_true (by omega)
                        clear c82
                        have H' := Aside0.mk H
                        clear H
                        obtain ⟨Ao83, co83, eo83⟩ := Kd.N_slice HO330.out
                        subst eo83
                        go_wp2
                        go_meet
                        case rel => exact ⟨_, (true), (by first | rfl | (simp; done) | (simp [*]; done)), H', ⟨by have := HJ3.out; have := HK2.out; first | omega | exact Nat.le_refl _⟩, ⟨by (with_reducible repeat (first | apply Kd.N_alloc | apply Kd.N_drewN | apply Kd.N_drew)); exact HO330.out⟩, ⟨by repeat (first | (with_reducible first | exact HB.out | apply below_alloc | apply pw_below_drewN | apply below_drew1) | exact HB.out)⟩⟩
                      · rw [if_neg c82] at H
                        have c82b0 : decide (0 < (t327.length : Int)) = false := decide_eq_false c82
                        have c82b1 : decide (0 < t327.length) = false := decide_eq_false (by omega)
                        clear c82
                        have H' := Aside0.mk H
                        clear H
                        obtain ⟨Ao84, co84, eo84⟩ := Kd.N_slice HO330.out
                        subst eo84
                        go_wp2
                        go_meet
                        case rel => exact ⟨_, (false), (by first | rfl | (simp; done) | (simp [*]; done)), H', ⟨by have := HJ3.out; have := HK2.out; first | omega | exact Nat.le_refl _⟩, ⟨by (with_reducible repeat (first | apply Kd.N_alloc | apply Kd.N_drewN | apply Kd.N_drew)); exact HO330.out⟩, ⟨by repeat (first | (with_reducible first | exact HB.out | apply below_alloc | apply pw_below_drewN | apply below_drew1) | exact HB.out)⟩⟩
                case rest =>
                  clear HC77
                  try clear c1
                  try clear c2
                  try clear p2
                  try clear c3
                  try clear p3
                  try clear q3
                  try clear hx3
                  try clear c5
                  try clear c6
                  try clear c6b0
                  try clear c6b1
                  try clear c6b2
                  try clear p6
                  try clear c7
                  try clear c8
                  try clear c8b0
                  try clear c9
                  try clear c9b0
                  try clear c10
                  try clear c10b0
                  try clear c11
                  try clear c13
                  try clear c16
                  try clear c22
                  try clear c22b0
                  try clear c23
                  try clear c23b0
                  try clear c23b1
                  try clear c23b2
                  try clear c25
                  try clear c25b0
                  try clear c25b1
                  try clear c25b2
                  try clear c26
                  try clear c31
                  try clear p31
                  try clear q31
                  try clear hx31
                  try clear c51
                  try clear c51b0
                  try clear c51b1
                  try clear c51b2
                  try clear c52
                  try clear p64
                  try clear c79
                  try clear c79b0
                  try clear c79b1
                  try clear c79b2
                  try clear c80
                  try clear c82
                  try clear c82b0
                  try clear c82b1
                  try clear hcz15_0
                  try clear hcz15_1
                  try clear hcz17_0
                  try clear hcz17_1
                  try clear hcz29_0
                  try clear hcz29_1
                  try clear hcz31_0
                  try clear hcz31_1
                  try clear hcz36_0
                  try clear hcz36_1
                  try clear hcz38_0
                  try clear hcz38_1
                  try clear hcz41_0
                  try clear hcz41_1
                  try clear hcz43_0
                  try clear hcz43_1
                  try clear hcz48_0
                  try clear hcz48_1
                  try clear hcz55_0
                  try clear hcz55_1
                  try clear hcz57_0
                  try clear hcz57_1
                  try clear hcz62_0
                  try clear hcz62_1
                  try clear hcz64_0
                  try clear hcz64_1
                  try clear hcz67_0
                  try clear hcz67_1
                  try clear hcz69_0
                  try clear hcz69_1
                  try clear hcz74_0
                  try clear hcz74_1
                  try clear hfz15_0
                  try clear hfz15_1
                  try clear hfz17_0
                  try clear hfz17_1
                  try clear hfz29_0
                  try clear hfz29_1
                  try clear hfz31_0
                  try clear hfz31_1
                  try clear hfz36_0
                  try clear hfz36_1
                  try clear hfz38_0
                  try clear hfz38_1
                  try clear hfz41_0
                  try clear hfz41_1
                  try clear hfz43_0
                  try clear hfz43_1
                  try clear hfz48_0
                  try clear hfz48_1
                  try clear hfz55_0
                  try clear hfz55_1
                  try clear hfz57_0
                  try clear hfz57_1
                  try clear hfz62_0
                  try clear hfz62_1
                  try clear hfz64_0
                  try clear hfz64_1
                  try clear hfz67_0
                  try clear hfz67_1
                  try clear hfz69_0
                  try clear hfz69_1
                  try clear hfz74_0
                  try clear hfz74_1
                  try clear hx314_0
                  try clear hx314_1
                  try clear p2
                  try clear p314
                  try clear q314
                  obtain ⟨kq, x70_76, rfl, HA, HJ76, HO_7, HB⟩ := hcut
                  cases kq with
                  | zero => exact absurd HA.out (by simp [scrimlaw09_SelectorLists.j2])
                  | succ kj76 =>
                    have H := HA.out
                    clear HA
                    simp only [scrimlaw09_SelectorLists.j2] at H
                    by_cases c85 : x70_76 = true
                    · subst c85
                      have H1 : (some false) = some r := by rw [if_pos rfl] at H; exact H
                      clear H
                      have H := H1
                      clear H1
                      exact absurd ((Option.some.inj H).trans hrt) (by decide)
                    · replace c85 := Bool.eq_false_iff.mpr c85
                      subst c85
                      have H1 : (scrimlaw09_SelectorLists.l1 kj76 l0 t327 (t327.length : Int) 0) = some r := by rw [if_neg (show ¬ (false = true) by decide)] at H; exact H
                      clear H
                      have H := H1
                      clear H1
                      have H' := Aside0.mk H
                      clear H
                      obtain ⟨Ao86, co86, eo86⟩ := Kd.N_slice HO_7.out
                      subst eo86
                      go_wp2
                      go_loopg [73] kj76 (fun kq v73 w' => ∃ (x73_4 : Int), v73 = .int .i64 x73_4 ∧ Aside0 (scrimlaw09_SelectorLists.l1 kq l0 t327 (t327.length : Int) x73_4 = some r) ∧ Aside0 (kq ≤ kj76) ∧ Aside0 (Kd.N k25 25 w' w.heap.size (fun _ => True) (.slice Ao86 t327.length co86) t327) ∧ Aside0 (Below w.heap.size w w'))
                      case atStart => exact ⟨(0), (by first | rfl | (simp; done) | (simp [*]; done)), H', ⟨Nat.le_refl _⟩, ⟨by (with_reducible repeat (first | apply Kd.N_alloc | apply Kd.N_drewN | apply Kd.N_drew)); exact HO_7.out⟩, ⟨by repeat (first | (with_reducible first | exact HB.out | apply below_alloc | apply pw_below_drewN | apply below_drew1) | exact HB.out)⟩⟩
                      case round =>
                        clear H'
                        try clear c1
                        try clear c2
                        try clear p2
                        try clear c3
                        try clear p3
                        try clear q3
                        try clear hx3
                        try clear c5
                        try clear c6
                        try clear c6b0
                        try clear c6b1
                        try clear c6b2
                        try clear p6
                        try clear c7
                        try clear c8
                        try clear c8b0
                        try clear c9
                        try clear c9b0
                        try clear c10
                        try clear c10b0
                        try clear c11
                        try clear c13
                        try clear c16
                        try clear c22
                        try clear c22b0
                        try clear c23
                        try clear c23b0
                        try clear c23b1
                        try clear c23b2
                        try clear c25
                        try clear c25b0
                        try clear c25b1
                        try clear c25b2
                        try clear c26
                        try clear c31
                        try clear p31
                        try clear q31
                        try clear hx31
                        try clear c51
                        try clear c51b0
                        try clear c51b1
                        try clear c51b2
                        try clear c52
                        try clear p64
                        try clear c79
                        try clear c79b0
                        try clear c79b1
                        try clear c79b2
                        try clear c80
                        try clear c82
                        try clear c82b0
                        try clear c82b1
                        try clear c85
                        try clear hcz15_0
                        try clear hcz15_1
                        try clear hcz17_0
                        try clear hcz17_1
                        try clear hcz29_0
                        try clear hcz29_1
                        try clear hcz31_0
                        try clear hcz31_1
                        try clear hcz36_0
                        try clear hcz36_1
                        try clear hcz38_0
                        try clear hcz38_1
                        try clear hcz41_0
                        try clear hcz41_1
                        try clear hcz43_0
                        try clear hcz43_1
                        try clear hcz48_0
                        try clear hcz48_1
                        try clear hcz55_0
                        try clear hcz55_1
                        try clear hcz57_0
                        try clear hcz57_1
                        try clear hcz62_0
                        try clear hcz62_1
                        try clear hcz64_0
                        try clear hcz64_1
                        try clear hcz67_0
                        try clear hcz67_1
                        try clear hcz69_0
                        try clear hcz69_1
                        try clear hcz74_0
                        try clear hcz74_1
                        try clear hfz15_0
                        try clear hfz15_1
                        try clear hfz17_0
                        try clear hfz17_1
                        try clear hfz29_0
                        try clear hfz29_1
                        try clear hfz31_0
                        try clear hfz31_1
                        try clear hfz36_0
                        try clear hfz36_1
                        try clear hfz38_0
                        try clear hfz38_1
                        try clear hfz41_0
                        try clear hfz41_1
                        try clear hfz43_0
                        try clear hfz43_1
                        try clear hfz48_0
                        try clear hfz48_1
                        try clear hfz55_0
                        try clear hfz55_1
                        try clear hfz57_0
                        try clear hfz57_1
                        try clear hfz62_0
                        try clear hfz62_1
                        try clear hfz64_0
                        try clear hfz64_1
                        try clear hfz67_0
                        try clear hfz67_1
                        try clear hfz69_0
                        try clear hfz69_1
                        try clear hfz74_0
                        try clear hfz74_1
                        try clear hx314_0
                        try clear hx314_1
                        try clear p2
                        try clear p3
                        try clear p31
                        try clear p314
                        try clear p6
                        try clear p64
                        try clear q3
                        try clear q31
                        try clear q314
                        obtain ⟨x73_4, rfl, HA, HK4, HO_7, HB⟩ := hrel
                        cases gk with
                        | zero => exact absurd HA.out (by simp [scrimlaw09_SelectorLists.l1])
                        | succ k4 =>
                          have H := HA.out
                          clear HA
                          simp only [scrimlaw09_SelectorLists.l1] at H
                          by_cases c87 : x73_4 < (t327.length : Int)
                          · rw [if_pos c87] at H
                            have c87b0 : decide (x73_4 < (t327.length : Int)) = true := decide_eq_true c87
                            clear c87
                            by_cases c88 : 0 ≤ x73_4
                            · rw [if_pos c88] at H
                              have c88b0 : decide (0 ≤ x73_4) = true := decide_eq_true c88
                              clear c88
                              by_cases c89 : x73_4 < (t327.length : Int)
                              · rw [if_pos c89] at H
                                have c89b0 : decide (x73_4 < (t327.length : Int)) = true := decide_eq_true c89
                                clear c89
                                by_cases c90 : x73_4 < (l0.length : Int)
                                · rw [if_pos c90] at H
                                  have c90b0 : decide (x73_4 < (l0.length : Int)) = true := decide_eq_true c90
                                  clear c90
                                  replace H := Option.bind_eq_some_iff.mp H
                                  obtain ⟨t333, A910, H⟩ := H
                                  replace H : (if t333 = true then (scrimlaw09_SelectorLists.l1 k4 l0 t327 (t327.length : Int) (wrap64 (x73_4 + 1))) else (some false)) = some r := H
                                  have A91 := Aside0.mk A910
                                  clear A910
                                  by_cases c92 : t333 = true
                                  · subst c92
                                    have H1 : (scrimlaw09_SelectorLists.l1 k4 l0 t327 (t327.length : Int) (wrap64 (x73_4 + 1))) = some r := by rw [if_pos rfl] at H; exact H
                                    clear H
                                    have H := H1
                                    clear H1
                                    have H' := Aside0.mk H
                                    clear H
                                    try go_wp2
                                    have n0_ := Aside0.mk (Kd.N_drew HO_7.out)
                                    have n1_ := Aside0.mk (below_drew1 HB.out)
                                    clear HO_7
                                    clear HB
                                    have HO_7 := n0_
                                    have HB := n1_
                                    clear n0_ n1_
                                    have p331 : 0 ≤ (x73_4 : Int) := of_decide_eq_true (by first | (with_reducible assumption) | assumption)
                                    have q331 : x73_4 < (t327.length : Int) := of_decide_eq_true (by first | (with_reducible assumption) | assumption)
                                    obtain ⟨ad331, A331_0, c331_0, A331_1, c331_1, e331, hx331_0, hx331_1, hl331_0, hi331_0, hl331_1, hi331_1⟩ := at_T25 (Kd.N_reads' HO_7.out).2.2 x73_4 p331 q331
                                    cases e331
                                    obtain ⟨ce331, hce331, hMe331, hcc331⟩ := Kd.N_get HO_7.out z25 x73_4 p331 (by first | exact q331 | exact of_decide_eq_true (by first | (with_reducible assumption) | assumption) | (have e_ := (Kd.N_reads' HO_7.out).1; omega))
                                    obtain ⟨ua331_0, uc331_0, ua331_1, uc331_1, rfl, ul331_0, ge331_0, ul331_1, ge331_1⟩ := k25_openF hMe331
                                    have hv331_0 := hcc331 0 _ rfl
                                    rw [Nat.add_zero] at hv331_0
                                    replace hv331_0 := Option.some.inj (hv331_0.symm.trans hx331_0)
                                    injection hv331_0 with hva_ hvn_ hvc_
                                    rw [hva_] at ge331_0
                                    rw [hvc_] at ul331_0
                                    have HL331_0 := Aside0.mk (show Kd.V k44 44 _ w.heap.size _ _ ((rd_T25 t327 x73_4).f0) from Kd.V_mk ul331_0 ge331_0)
                                    clear hva_ hvn_ hvc_ ge331_0 ul331_0
                                    have hv331_1 := hcc331 1 _ rfl
                                    rw [add_field _ _ 1 (by omega)] at hv331_1
                                    replace hv331_1 := Option.some.inj (hv331_1.symm.trans hx331_1)
                                    injection hv331_1 with hva_ hvn_ hvc_
                                    rw [hva_] at ge331_1
                                    rw [hvc_] at ul331_1
                                    have HL331_1 := Aside0.mk (show Kd.V Kd.bool 4 _ w.heap.size _ _ ((rd_T25 t327 x73_4).f1) from Kd.V_mk ul331_1 ge331_1)
                                    clear hva_ hvn_ hvc_ ge331_1 ul331_1
                                    clear hcc331 hce331
                                    have HR331_0 := Aside0.mk hi331_0
                                    have HC331_0 := Aside0.mk hl331_0
                                    clear hi331_0 hl331_0
                                    have HR331_1 := Aside0.mk hi331_1
                                    have HC331_1 := Aside0.mk hl331_1
                                    clear hi331_1 hl331_1
                                    replace p331 := eq_true p331
                                    replace q331 := eq_true q331
                                    have p332 : 0 ≤ (x73_4 : Int) := of_decide_eq_true (by first | (with_reducible assumption) | assumption)
                                    have q332 : x73_4 < (l0.length : Int) := of_decide_eq_true (by first | (with_reducible assumption) | assumption)
                                    obtain ⟨ad332, A332_0, c332_0, A332_1, c332_1, e332, hx332_0, hx332_1, hl332_0, hi332_0, hl332_1, hi332_1⟩ := at_T25 HR0.out x73_4 p332 q332
                                    have hw332_1 := hx332_1
                                    have hw332_0 := hx332_0
                                    cases e332
                                    replace hx332_0 := (HB.out.cell (World.block_lt_of_cell? w _ hx332_0)).trans hx332_0
                                    replace hx332_1 := (HB.out.cell (World.block_lt_of_cell? w _ hx332_1)).trans hx332_1
                                    have HR332_0 := Aside0.mk hi332_0
                                    have HC332_0 := Aside0.mk hl332_0
                                    clear hi332_0 hl332_0
                                    have HR332_1 := Aside0.mk hi332_1
                                    have HC332_1 := Aside0.mk hl332_1
                                    clear hi332_1 hl332_1
                                    replace p332 := eq_true p332
                                    replace q332 := eq_true q332
                                    refine start_ (n := 10) (S := fun w' => w'.cell? (ad331.add ((x73_4).toNat * 2)) = some (.slice A331_0 ((rd_T25 t327 x73_4).f0).length c331_0) ∧ w'.cell? ⟨(ad331.add ((x73_4).toNat * 2)).block, (ad331.add ((x73_4).toNat * 2)).off + 1, none⟩ = some (.slice A331_1 ((rd_T25 t327 x73_4).f1).length c331_1) ∧ w'.cell? (ad332.add ((x73_4).toNat * 2)) = some (.slice A332_0 ((rd_T25 l0 x73_4).f0).length c332_0) ∧ w'.cell? ⟨(ad332.add ((x73_4).toNat * 2)).block, (ad332.add ((x73_4).toNat * 2)).off + 1, none⟩ = some (.slice A332_1 ((rd_T25 l0 x73_4).f1).length c332_1)) (ds := []) #[false, false, false, false, false, false, false, false, false, false] (by kernel_rfl) rfl rfl ⟨hx331_0, hx331_1, ((HB.out.cell (World.block_lt_of_cell? w _ hw332_0)).trans hw332_0), ((HB.out.cell (World.block_lt_of_cell? w _ hw332_1)).trans hw332_1)⟩ (fun hHeld => ?_); refine with_tabW scrimlaw09_SelectorLists.tab22 scrimlaw09_SelectorLists.bits22 (fun HT_ HW_ => ?_)
                                    generalize wr.drew = w93 at HO_7 HB HL331_0 HL331_1 HR331_0 HR331_1 HR332_0 HR332_1 hx331_0 hx331_1 hx332_0 hx332_1 hHeld ⊢
                                    refine pure_ (i := 0) (N := some 76) (v := ?_) (a' := ?_) #[true, false, false, false, false, false, false, false, false, false] rfl rfl (any_of HT_.out (by kernel_rfl)) (fun _ _ _ h => h) (Or.inl ⟨by rfl, ?_⟩) ?_ ?_
                                    rotate_left
                                    · intro w'
                                      go_simp
                                      with_reducible rfl
                                    rotate_left
                                    · simp only [Act.put, List.setIfInBounds_toArray, List.set_cons_zero, List.set_cons_succ, i64_w, i32_w]
                                      rfl
                                    refine pure_ (i := 1) (N := some 77) (v := ?_) (a' := ?_) #[true, true, false, false, false, false, false, false, false, false] rfl rfl (any_of HT_.out (by kernel_rfl)) (fun _ _ _ h => h) (Or.inl ⟨by rfl, ?_⟩) ?_ ?_
                                    rotate_left
                                    · intro w'
                                      go_simp
                                      with_reducible rfl
                                    rotate_left
                                    · simp only [Act.put, List.setIfInBounds_toArray, List.set_cons_zero, List.set_cons_succ, i64_w, i32_w]
                                      rfl
                                    refine pure_ (i := 2) (N := some 78) (v := ?_) (a' := ?_) #[true, true, true, false, false, false, false, false, false, false] rfl rfl (any_of HT_.out (by kernel_rfl)) (fun _ _ _ h => h) (Or.inl ⟨by rfl, ?_⟩) ?_ ?_
                                    rotate_left
                                    · intro w'
                                      go_simp
                                      with_reducible rfl
                                    rotate_left
                                    · simp only [Act.put, List.setIfInBounds_toArray, List.set_cons_zero, List.set_cons_succ, i64_w, i32_w]
                                      rfl
                                    refine pure_ (i := 4) (N := some 80) (v := ?_) (a' := ?_) #[true, true, true, false, true, false, false, false, false, false] rfl rfl (any_of HT_.out (by kernel_rfl)) (fun _ _ _ h => h) (Or.inl ⟨by rfl, ?_⟩) ?_ ?_
                                    rotate_left
                                    · intro w'
                                      go_simp
                                      with_reducible rfl
                                    rotate_left
                                    · simp only [Act.put, List.setIfInBounds_toArray, List.set_cons_zero, List.set_cons_succ, i64_w, i32_w]
                                      rfl
                                    refine pure_ (i := 5) (N := some 81) (v := ?_) (a' := ?_) #[true, true, true, false, true, true, false, false, false, false] rfl rfl (any_of HT_.out (by kernel_rfl)) (fun _ _ _ h => h) (Or.inl ⟨by rfl, ?_⟩) ?_ ?_
                                    rotate_left
                                    · intro w'
                                      go_simp
                                      with_reducible rfl
                                    rotate_left
                                    · simp only [Act.put, List.setIfInBounds_toArray, List.set_cons_zero, List.set_cons_succ, i64_w, i32_w]
                                      rfl
                                    refine pure_ (i := 6) (N := some 82) (v := ?_) (a' := ?_) #[true, true, true, false, true, true, true, false, false, false] rfl rfl (any_of HT_.out (by kernel_rfl)) (fun _ _ _ h => h) (Or.inl ⟨by rfl, ?_⟩) ?_ ?_
                                    rotate_left
                                    · intro w'
                                      go_simp
                                      with_reducible rfl
                                    rotate_left
                                    · simp only [Act.put, List.setIfInBounds_toArray, List.set_cons_zero, List.set_cons_succ, i64_w, i32_w]
                                      rfl
                                    refine take_ (i := 3) (N := some 79) (v := ?_) (a' := ?_) #[true, true, true, true, true, true, true, false, false, false] rfl rfl (take_ofW HT_.out HW_.out (by kernel_rfl)) (fun _ _ _ h => h) (Or.inl ⟨by rfl, ?_⟩) hHeld ?_ ?_
                                    rotate_left
                                    · rintro w' ⟨s0, s1, s2, s3⟩
                                      go_simp
                                      with_reducible rfl
                                    rotate_left
                                    · simp only [Act.put, List.setIfInBounds_toArray, List.set_cons_zero, List.set_cons_succ, i64_w, i32_w]
                                      rfl
                                    refine take_ (i := 7) (N := some 83) (v := ?_) (a' := ?_) #[true, true, true, true, true, true, true, true, false, false] rfl rfl (take_ofW HT_.out HW_.out (by kernel_rfl)) (fun _ _ _ h => h) (Or.inl ⟨by rfl, ?_⟩) hHeld ?_ ?_
                                    rotate_left
                                    · rintro w' ⟨s0, s1, s2, s3⟩
                                      go_simp
                                      with_reducible rfl
                                    rotate_left
                                    · simp only [Act.put, List.setIfInBounds_toArray, List.set_cons_zero, List.set_cons_succ, i64_w, i32_w]
                                      rfl
                                    refine one_ (i := 8) (N := some 84) #[true, true, true, true, true, true, true, true, true, false] rfl rfl (one_of HT_.out (by kernel_rfl)) (by decide) (fun K hK => ?_)
                                    refine goes_ Tryd.func13 (by kernel_rfl) rfl #[.agg #[.slice A331_0 ((rd_T25 t327 x73_4).f0).length c331_0, .slice A331_1 ((rd_T25 t327 x73_4).f1).length c331_1], .agg #[.slice A332_0 ((rd_T25 l0 x73_4).f0).length c332_0, .slice A332_1 ((rd_T25 l0 x73_4).f1).length c332_1]] (by rfl) rfl rfl (by (try simp only [List.map_toArray, List.map_cons, List.map_nil]); first | done | rfl | (simp only [List.length_drop, List.length_take]; rfl)) ?_
                                    with_reducible refine (selector_Same.calls _ _ ((rd_T25 t327 x73_4).f0) _ _ ((rd_T25 t327 x73_4).f1) _ _ ((rd_T25 l0 x73_4).f0) _ _ ((rd_T25 l0 x73_4).f1) true _ ?side1 ?side2 ?side3 ?side4 ?side5 ?side6 ?side7 ?side8 A91.out).mono ?_
                                    (case side1 => repeat (first | exact (by repeat (first | (with_reducible exact HR331_0.out) | (with_reducible refine Kd.C_alloc ?_ _) | (with_reducible refine Kd.C_drewN ?_ _) | (with_reducible refine Kd.C_drew ?_) | exact HR331_0.out)) | (with_reducible refine Kd.C_alloc ?_ _) | (with_reducible refine Kd.C_drewN ?_ _) | (with_reducible refine Kd.C_drew ?_)))
                                    (case side2 => exact HC331_0.out)
                                    (case side3 => repeat (first | exact (by repeat (first | (with_reducible exact HR331_1.out) | (with_reducible refine Kd.C_alloc ?_ _) | (with_reducible refine Kd.C_drewN ?_ _) | (with_reducible refine Kd.C_drew ?_) | exact HR331_1.out)) | (with_reducible refine Kd.C_alloc ?_ _) | (with_reducible refine Kd.C_drewN ?_ _) | (with_reducible refine Kd.C_drew ?_)))
                                    (case side4 => exact HC331_1.out)
                                    (case side5 => repeat (first | exact (Kd.C_below HR332_0.out HB.out) | (with_reducible refine Kd.C_alloc ?_ _) | (with_reducible refine Kd.C_drewN ?_ _) | (with_reducible refine Kd.C_drew ?_)))
                                    (case side6 => exact HC332_0.out)
                                    (case side7 => repeat (first | exact (Kd.C_below HR332_1.out HB.out) | (with_reducible refine Kd.C_alloc ?_ _) | (with_reducible refine Kd.C_drewN ?_ _) | (with_reducible refine Kd.C_drew ?_)))
                                    (case side8 => exact HC332_1.out)
                                    rintro e w94 ⟨rfl, hb⟩
                                    (try have HR332_0 := Aside0.mk (Kd.C_below (by repeat (first | (with_reducible exact HR332_0.out) | (with_reducible refine Kd.C_alloc ?_ _) | (with_reducible refine Kd.C_drewN ?_ _) | (with_reducible refine Kd.C_drew ?_))) hb))
                                    (try have HR332_1 := Aside0.mk (Kd.C_below (by repeat (first | (with_reducible exact HR332_1.out) | (with_reducible refine Kd.C_alloc ?_ _) | (with_reducible refine Kd.C_drewN ?_ _) | (with_reducible refine Kd.C_drew ?_))) hb))
                                    have HS0_ := (hb.cell (World.block_lt_of_cell? _ _ (hHeld.1))).trans (hHeld.1)
                                    have HS1_ := (hb.cell (World.block_lt_of_cell? _ _ (hHeld.2.1))).trans (hHeld.2.1)
                                    refine ⟨_, rfl, ?_⟩
                                    have n0_ := Aside0.mk (Kd.N_below (by (with_reducible repeat (first | apply Kd.N_alloc | apply Kd.N_drewN | apply Kd.N_drew)); exact HO_7.out) hb)
                                    have n1_ := Aside0.mk (Kd.V_below (by (with_reducible repeat (first | apply Kd.V_alloc | apply Kd.V_drewN | apply Kd.V_drew)); exact HL331_0.out) hb)
                                    have n2_ := Aside0.mk (Kd.V_below (by (with_reducible repeat (first | apply Kd.V_alloc | apply Kd.V_drewN | apply Kd.V_drew)); exact HL331_1.out) hb)
                                    have n3_ := Aside0.mk (Kd.C_below (by repeat (first | (with_reducible exact HR331_0.out) | (with_reducible refine Kd.C_alloc ?_ _) | (with_reducible refine Kd.C_drewN ?_ _) | (with_reducible refine Kd.C_drew ?_) | exact HR331_0.out)) hb)
                                    have n4_ := Aside0.mk (Kd.C_below (by repeat (first | (with_reducible exact HR331_1.out) | (with_reducible refine Kd.C_alloc ?_ _) | (with_reducible refine Kd.C_drewN ?_ _) | (with_reducible refine Kd.C_drew ?_) | exact HR331_1.out)) hb)
                                    have n5_ := Aside0.mk (below_step (by repeat (first | (with_reducible first | exact HB.out | apply below_alloc | apply pw_below_drewN | apply below_drew1) | exact HB.out)) hb)
                                    clear HO_7
                                    clear HL331_0
                                    clear HL331_1
                                    clear HR331_0
                                    clear HR331_1
                                    clear HB
                                    have HO_7 := n0_
                                    have HL331_0 := n1_
                                    have HL331_1 := n2_
                                    have HR331_0 := n3_
                                    have HR331_1 := n4_
                                    have HB := n5_
                                    clear n0_ n1_ n2_ n3_ n4_ n5_
                                    (try clear hb)
                                    (try clear hb2)
                                    (try clear hk)
                                    (try clear hi)
                                    refine hK.out _ _ ⟨HS0_, HS1_, ((HB.out.cell (World.block_lt_of_cell? w _ hw332_0)).trans hw332_0), ((HB.out.cell (World.block_lt_of_cell? w _ hw332_1)).trans hw332_1)⟩ (fun hHeld => ?_)
                                    clear hK K
                                    refine norm_ (a' := ?_) ?_ ?_
                                    rotate_left
                                    · show Act.put _ (some 84) _ = _
                                      simp only [Act.put, List.setIfInBounds_toArray, List.set_cons_zero, List.set_cons_succ, i64_w, i32_w]
                                      rfl
                                    refine pure_ (i := 9) (N := some 85) (v := ?_) (a' := ?_) #[true, true, true, true, true, true, true, true, true, true] rfl rfl (any_of HT_.out (by kernel_rfl)) (fun _ _ _ h => h) (Or.inl ⟨by rfl, ?_⟩) ?_ ?_
                                    rotate_left
                                    · intro w'
                                      go_simp
                                      with_reducible rfl
                                    rotate_left
                                    · simp only [Act.put, List.setIfInBounds_toArray, List.set_cons_zero, List.set_cons_succ, i64_w, i32_w]
                                      rfl
                                    refine done_ (done_of HT_.out (by kernel_rfl)) ?_
                                    try go_wp2
                                    go_roundg k4
                                    case measure => have := HJ3.out; have := HK2.out; have := HJ76.out; have := HK4.out; omega
                                    case rel => exact ⟨(wrap64 (x73_4 + 1)), (by first | rfl | (simp; done) | (simp [*]; done)), H', ⟨by have := HJ3.out; have := HK2.out; have := HJ76.out; have := HK4.out; omega⟩, ⟨by (with_reducible repeat (first | apply Kd.N_alloc | apply Kd.N_drewN | apply Kd.N_drew)); exact HO_7.out⟩, ⟨by repeat (first | (with_reducible first | exact HB.out | apply below_alloc | apply pw_below_drewN | apply below_drew1) | exact HB.out)⟩⟩
                                  · replace c92 := Bool.eq_false_iff.mpr c92
                                    subst c92
                                    have H1 : (some false) = some r := by rw [if_neg (show ¬ (false = true) by decide)] at H; exact H
                                    clear H
                                    have H := H1
                                    clear H1
                                    exact absurd ((Option.some.inj H).trans hrt) (by decide)
                                · rw [if_neg c90] at H
                                  exact absurd H (by simp)
                              · rw [if_neg c89] at H
                                exact absurd H (by simp)
                            · rw [if_neg c88] at H
                              exact absurd H (by simp)
                          · rw [if_neg c87] at H
                            have c87b0 : decide (x73_4 < (t327.length : Int)) = false := decide_eq_false c87
                            clear c87
                            obtain rfl := Option.some.inj H; clear hrt; try clear H
                            go_wp2
                            go_ret
                            exact ⟨by first | rfl | (simp [errW_none, errW_some] <;> rfl) | (simp [*, errW_none, errW_some] <;> rfl), by repeat (first | (with_reducible first | exact HB.out | apply below_alloc | apply pw_below_drewN | apply below_drew1) | exact HB.out)⟩
  · replace c3 := Bool.eq_false_iff.mpr c3
    subst c3
    have H1 : (some false) = some r := by rw [if_neg (show ¬ (false = true) by decide)] at H; exact H
    clear H
    have H := H1
    clear H1
    exact absurd ((Option.some.inj H).trans hrt) (by decide)

end Go.Proofs.YtdifaomkaekglabDoor.HS
