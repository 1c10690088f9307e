-- Written by a program of this session (wip/tools/hprint.py), which drives the kit's print; not print.sh's own output.
import Derived.Test.YtdifaomkaekglaaDoorHS0
import Derived.Test.YtdifaomkaekglaaDoorHS2
namespace Go.Proofs.YtdifaomkaekglaaDoor.HS
open Go.RowKit Go.Proofs.YtdifaomkaekglaaDoorW.PrintWords Go.Proofs.YtdifaomkaekglaaDoorW.PrintLast Go.Proofs.YtdifaomkaekglaaDoorW.PrintMore
attribute [local go_sem] max2_int min2_int max_two min_two max_three min_three max_four min_four   -- for this text's walks alone
set_option linter.unusedVariables false
set_option linter.unusedSimpArgs false

/-! ### scrimlaw07_ScanWords: function 5 -/
mutual
def scrimlaw07_ScanWords.j0 : Nat → List ByteArray → Int → Bool → Option (Bool)
  | 0, _, _, _ => none
  | k + 1, x0, x1, x23 => if x23 = true then (some true) else (scrimlaw07_ScanWords.l0 k x0 x1 (⟨#[]⟩ : ByteArray) (⟨#[]⟩ : ByteArray) x0 (x0.length : Int) 0)
def scrimlaw07_ScanWords.l0 : Nat → List ByteArray → Int → ByteArray → ByteArray → List ByteArray → Int → Int → Option (Bool)
  | 0, _, _, _, _, _, _, _ => none
  | k + 1, x0, x1, x5, x6, x24, x25, x26 => if x26 < x25 then (if 0 ≤ x26 then (if x26 < (x24.length : Int) then (if (rdOf ByteArray.empty x24 x26).toList = ([] : List UInt8) then (scrimlaw07_ScanWords.j2 k x0 x1 x5 x6 x26 (rdOf ByteArray.empty x24 x26) x24 x25 x26 true) else (scrimlaw07_ScanWords.j2 k x0 x1 x5 x6 x26 (rdOf ByteArray.empty x24 x26) x24 x25 x26 (decide (((rdOf ByteArray.empty x24 x26).size : Int) > 20)))) else (none)) else (none)) else (if (x0.length : Int) > 0 then ((scan_Split.f x6 44).bind fun t228 => ((scrimref07_Same.f k t228 x0).bind fun t231 => (scrimlaw07_ScanWords.j4 k x0 x5 (!t231)))) else (scrimlaw07_ScanWords.j4 k x0 x5 false))
def scrimlaw07_ScanWords.j2 : Nat → List ByteArray → Int → ByteArray → ByteArray → Int → ByteArray → List ByteArray → Int → Int → Bool → Option (Bool)
  | 0, _, _, _, _, _, _, _, _, _, _ => none
  | k + 1, x0, x1, x5, x6, x7, x8, x24, x25, x26, x37 => if x37 = true then (some true) else (scrimlaw07_ScanWords.l1 k x0 x1 x5 x6 x7 x8 0 x24 x25 x26)
def scrimlaw07_ScanWords.l1 : Nat → List ByteArray → Int → ByteArray → ByteArray → Int → ByteArray → Int → List ByteArray → Int → Int → Option (Bool)
  | 0, _, _, _, _, _, _, _, _, _, _ => none
  | k + 1, x0, x1, x5, x6, x7, x8, x9, x24, x25, x26 => if x9 < (x8.size : Int) then (if 0 ≤ x9 then (if (bt x8 x9) = 32 then (some true) else (if (bt x8 x9) = 9 then (some true) else (if (bt x8 x9) = 10 then (some true) else (if (bt x8 x9) = 13 then (some true) else (if (bt x8 x9) = 44 then (some true) else (scrimlaw07_ScanWords.l1 k x0 x1 x5 x6 x7 x8 (wrap64 (x9 + 1)) x24 x25 x26)))))) else (none)) else (if 0 ≤ x1 then (if x1 ≤ 4 then (if ((⟨#[32, 9, 10, 13]⟩ : ByteArray).extract (x1 : Int).toNat (⟨#[32, 9, 10, 13]⟩ : ByteArray).size).size + x8.size ≤ 9223372036854775807 then (if (((⟨#[32, 9, 10, 13]⟩ : ByteArray).extract (x1 : Int).toNat (⟨#[32, 9, 10, 13]⟩ : ByteArray).size) ++ x8).size + 1 ≤ 9223372036854775807 then (if x5.size + ((((⟨#[32, 9, 10, 13]⟩ : ByteArray).extract (x1 : Int).toNat (⟨#[32, 9, 10, 13]⟩ : ByteArray).size) ++ x8) ++ (⟨#[32]⟩ : ByteArray)).size ≤ 9223372036854775807 then (if x7 > 0 then (if x6.size + 3 ≤ 9223372036854775807 then (if (x6 ++ (⟨#[32, 44, 32]⟩ : ByteArray)).size + x8.size ≤ 9223372036854775807 then (scrimlaw07_ScanWords.l0 k x0 x1 (x5 ++ ((((⟨#[32, 9, 10, 13]⟩ : ByteArray).extract (x1 : Int).toNat (⟨#[32, 9, 10, 13]⟩ : ByteArray).size) ++ x8) ++ (⟨#[32]⟩ : ByteArray))) ((x6 ++ (⟨#[32, 44, 32]⟩ : ByteArray)) ++ x8) x24 x25 (wrap64 (x26 + 1))) else (none)) else (none)) else (if x6.size + x8.size ≤ 9223372036854775807 then (scrimlaw07_ScanWords.l0 k x0 x1 (x5 ++ ((((⟨#[32, 9, 10, 13]⟩ : ByteArray).extract (x1 : Int).toNat (⟨#[32, 9, 10, 13]⟩ : ByteArray).size) ++ x8) ++ (⟨#[32]⟩ : ByteArray))) (x6 ++ x8) x24 x25 (wrap64 (x26 + 1))) else (none))) else (none)) else (none)) else (none)) else (none)) else (none))
def scrimlaw07_ScanWords.j4 : Nat → List ByteArray → ByteArray → Bool → Option (Bool)
  | 0, _, _, _ => none
  | k + 1, x0, x5, x89 => if x89 = true then (some false) else ((scan_Words.f x5).bind fun t232 => ((scrimref07_Same.f k t232 x0).bind fun t235 => (some t235)))
end
def scrimlaw07_ScanWords.f (k : Nat) (l0 : List ByteArray) (a1 : Int) : Option (Bool) := (scrimlaw07_awake.f k).bind fun t226 => (if t226 = true then (if (l0.length : Int) > 50 then (scrimlaw07_ScanWords.j0 k l0 a1 true) else (if a1 < 0 then (scrimlaw07_ScanWords.j0 k l0 a1 true) else (scrimlaw07_ScanWords.j0 k l0 a1 (decide (a1 > 3))))) else (some false))
theorem scrimlaw07_ScanWords.mono_l : ∀ k, (∀ y0 y1 y2, LeO (scrimlaw07_ScanWords.j0 k y0 y1 y2) (scrimlaw07_ScanWords.j0 (k + 1) y0 y1 y2)) ∧ (∀ y0 y1 y2 y3 y4 y5 y6, LeO (scrimlaw07_ScanWords.l0 k y0 y1 y2 y3 y4 y5 y6) (scrimlaw07_ScanWords.l0 (k + 1) y0 y1 y2 y3 y4 y5 y6)) ∧ (∀ y0 y1 y2 y3 y4 y5 y6 y7 y8 y9, LeO (scrimlaw07_ScanWords.j2 k y0 y1 y2 y3 y4 y5 y6 y7 y8 y9) (scrimlaw07_ScanWords.j2 (k + 1) y0 y1 y2 y3 y4 y5 y6 y7 y8 y9)) ∧ (∀ y0 y1 y2 y3 y4 y5 y6 y7 y8 y9, LeO (scrimlaw07_ScanWords.l1 k y0 y1 y2 y3 y4 y5 y6 y7 y8 y9) (scrimlaw07_ScanWords.l1 (k + 1) y0 y1 y2 y3 y4 y5 y6 y7 y8 y9)) ∧ (∀ y0 y1 y2, LeO (scrimlaw07_ScanWords.j4 k y0 y1 y2) (scrimlaw07_ScanWords.j4 (k + 1) y0 y1 y2))
  | 0 => ⟨fun _ _ _ r h => by simp [scrimlaw07_ScanWords.j0] at h, fun _ _ _ _ _ _ _ r h => by simp [scrimlaw07_ScanWords.l0] at h, fun _ _ _ _ _ _ _ _ _ _ r h => by simp [scrimlaw07_ScanWords.j2] at h, fun _ _ _ _ _ _ _ _ _ _ r h => by simp [scrimlaw07_ScanWords.l1] at h, fun _ _ _ r h => by simp [scrimlaw07_ScanWords.j4] at h⟩
  | k + 1 => by
    obtain ⟨ih0, ih1, ih2, ih3, ih4⟩ := scrimlaw07_ScanWords.mono_l k
    refine ⟨?_, ?_, ?_, ?_, ?_⟩
    · intro y0 y1 y2
      unfold scrimlaw07_ScanWords.j0
      repeat' first
      | (with_reducible exact ih0 _ _ _)
      | (with_reducible exact ih1 _ _ _ _ _ _ _)
      | (with_reducible exact ih2 _ _ _ _ _ _ _ _ _ _)
      | (with_reducible exact ih3 _ _ _ _ _ _ _ _ _ _)
      | (with_reducible exact ih4 _ _ _)
      | (with_reducible exact scrimlaw07_awake.mono _)
      | (with_reducible exact scrimref07_Same.mono _ _ _)
      | (with_reducible exact LeO.refl _)
      | (with_reducible exact LeO.none _)
      | (with_reducible refine LeO.ite ?_ ?_)
      | (with_reducible refine LeO.bind ?_ (fun _ => ?_))
      | exact ih0 _ _ _
      | exact ih1 _ _ _ _ _ _ _
      | exact ih2 _ _ _ _ _ _ _ _ _ _
      | exact ih3 _ _ _ _ _ _ _ _ _ _
      | exact ih4 _ _ _
      | exact scrimlaw07_awake.mono _
      | exact scrimref07_Same.mono _ _ _
      | exact LeO.none _
      | refine LeO.ite ?_ ?_
      | refine LeO.bind ?_ (fun _ => ?_)
    · intro y0 y1 y2 y3 y4 y5 y6
      unfold scrimlaw07_ScanWords.l0
      repeat' first
      | (with_reducible exact ih0 _ _ _)
      | (with_reducible exact ih1 _ _ _ _ _ _ _)
      | (with_reducible exact ih2 _ _ _ _ _ _ _ _ _ _)
      | (with_reducible exact ih3 _ _ _ _ _ _ _ _ _ _)
      | (with_reducible exact ih4 _ _ _)
      | (with_reducible exact scrimlaw07_awake.mono _)
      | (with_reducible exact scrimref07_Same.mono _ _ _)
      | (with_reducible exact LeO.refl _)
      | (with_reducible exact LeO.none _)
      | (with_reducible refine LeO.ite ?_ ?_)
      | (with_reducible refine LeO.bind ?_ (fun _ => ?_))
      | exact ih0 _ _ _
      | exact ih1 _ _ _ _ _ _ _
      | exact ih2 _ _ _ _ _ _ _ _ _ _
      | exact ih3 _ _ _ _ _ _ _ _ _ _
      | exact ih4 _ _ _
      | exact scrimlaw07_awake.mono _
      | exact scrimref07_Same.mono _ _ _
      | exact LeO.none _
      | refine LeO.ite ?_ ?_
      | refine LeO.bind ?_ (fun _ => ?_)
    · intro y0 y1 y2 y3 y4 y5 y6 y7 y8 y9
      unfold scrimlaw07_ScanWords.j2
      repeat' first
      | (with_reducible exact ih0 _ _ _)
      | (with_reducible exact ih1 _ _ _ _ _ _ _)
      | (with_reducible exact ih2 _ _ _ _ _ _ _ _ _ _)
      | (with_reducible exact ih3 _ _ _ _ _ _ _ _ _ _)
      | (with_reducible exact ih4 _ _ _)
      | (with_reducible exact scrimlaw07_awake.mono _)
      | (with_reducible exact scrimref07_Same.mono _ _ _)
      | (with_reducible exact LeO.refl _)
      | (with_reducible exact LeO.none _)
      | (with_reducible refine LeO.ite ?_ ?_)
      | (with_reducible refine LeO.bind ?_ (fun _ => ?_))
      | exact ih0 _ _ _
      | exact ih1 _ _ _ _ _ _ _
      | exact ih2 _ _ _ _ _ _ _ _ _ _
      | exact ih3 _ _ _ _ _ _ _ _ _ _
      | exact ih4 _ _ _
      | exact scrimlaw07_awake.mono _
      | exact scrimref07_Same.mono _ _ _
      | exact LeO.none _
      | refine LeO.ite ?_ ?_
      | refine LeO.bind ?_ (fun _ => ?_)
    · intro y0 y1 y2 y3 y4 y5 y6 y7 y8 y9
      unfold scrimlaw07_ScanWords.l1
      repeat' first
      | (with_reducible exact ih0 _ _ _)
      | (with_reducible exact ih1 _ _ _ _ _ _ _)
      | (with_reducible exact ih2 _ _ _ _ _ _ _ _ _ _)
      | (with_reducible exact ih3 _ _ _ _ _ _ _ _ _ _)
      | (with_reducible exact ih4 _ _ _)
      | (with_reducible exact scrimlaw07_awake.mono _)
      | (with_reducible exact scrimref07_Same.mono _ _ _)
      | (with_reducible exact LeO.refl _)
      | (with_reducible exact LeO.none _)
      | (with_reducible refine LeO.ite ?_ ?_)
      | (with_reducible refine LeO.bind ?_ (fun _ => ?_))
      | exact ih0 _ _ _
      | exact ih1 _ _ _ _ _ _ _
      | exact ih2 _ _ _ _ _ _ _ _ _ _
      | exact ih3 _ _ _ _ _ _ _ _ _ _
      | exact ih4 _ _ _
      | exact scrimlaw07_awake.mono _
      | exact scrimref07_Same.mono _ _ _
      | exact LeO.none _
      | refine LeO.ite ?_ ?_
      | refine LeO.bind ?_ (fun _ => ?_)
    · intro y0 y1 y2
      unfold scrimlaw07_ScanWords.j4
      repeat' first
      | (with_reducible exact ih0 _ _ _)
      | (with_reducible exact ih1 _ _ _ _ _ _ _)
      | (with_reducible exact ih2 _ _ _ _ _ _ _ _ _ _)
      | (with_reducible exact ih3 _ _ _ _ _ _ _ _ _ _)
      | (with_reducible exact ih4 _ _ _)
      | (with_reducible exact scrimlaw07_awake.mono _)
      | (with_reducible exact scrimref07_Same.mono _ _ _)
      | (with_reducible exact LeO.refl _)
      | (with_reducible exact LeO.none _)
      | (with_reducible refine LeO.ite ?_ ?_)
      | (with_reducible refine LeO.bind ?_ (fun _ => ?_))
      | exact ih0 _ _ _
      | exact ih1 _ _ _ _ _ _ _
      | exact ih2 _ _ _ _ _ _ _ _ _ _
      | exact ih3 _ _ _ _ _ _ _ _ _ _
      | exact ih4 _ _ _
      | exact scrimlaw07_awake.mono _
      | exact scrimref07_Same.mono _ _ _
      | exact LeO.none _
      | refine LeO.ite ?_ ?_
      | refine LeO.bind ?_ (fun _ => ?_)
theorem scrimlaw07_ScanWords.mono : ∀ a0 a1 k, LeO (scrimlaw07_ScanWords.f k a0 a1) (scrimlaw07_ScanWords.f (k + 1) a0 a1) := by
  intro a0 a1 k
  obtain ⟨ih0, ih1, ih2, ih3, ih4⟩ := scrimlaw07_ScanWords.mono_l k
  unfold scrimlaw07_ScanWords.f
  repeat' first
      | (with_reducible exact ih0 _ _ _)
      | (with_reducible exact ih1 _ _ _ _ _ _ _)
      | (with_reducible exact ih2 _ _ _ _ _ _ _ _ _ _)
      | (with_reducible exact ih3 _ _ _ _ _ _ _ _ _ _)
      | (with_reducible exact ih4 _ _ _)
      | (with_reducible exact scrimlaw07_awake.mono _)
      | (with_reducible exact scrimref07_Same.mono _ _ _)
      | (with_reducible exact LeO.refl _)
      | (with_reducible exact LeO.none _)
      | (with_reducible refine LeO.ite ?_ ?_)
      | (with_reducible refine LeO.bind ?_ (fun _ => ?_))
      | exact ih0 _ _ _
      | exact ih1 _ _ _ _ _ _ _
      | exact ih2 _ _ _ _ _ _ _ _ _ _
      | exact ih3 _ _ _ _ _ _ _ _ _ _
      | exact ih4 _ _ _
      | exact scrimlaw07_awake.mono _
      | exact scrimref07_Same.mono _ _ _
      | exact LeO.none _
      | refine LeO.ite ?_ ?_
      | refine LeO.bind ?_ (fun _ => ?_)
set_option maxHeartbeats 8000000 in
set_option maxRecDepth 100000 in
theorem scrimlaw07_ScanWords.calls (k : Nat) (A0 : Option Addr) (c0 : Nat) (l0 : List ByteArray) (a1 : Int) (r : Bool) (hrt : r = true) (w : World) (hr0 : Kd.C Kd.string w A0 l0.length l0) (hc0 : l0.length ≤ c0) (h : scrimlaw07_ScanWords.f k l0 a1 = some r) (hmx : Go.Proofs.Scn.Mx w) :
    Calls Tryd.prog 5 #[.slice A0 l0.length c0, .int .i64 a1] w fun e w' => e = .returned (.bool r) ∧ Below w.heap.size w w' := by
  have HMX := Aside0.mk hmx
  clear hmx
  have HR0 := Aside0.mk hr0
  have HC0 := Aside0.mk hc0
  clear hr0 hc0
  have HB := Aside0.mk (Below.refl w.heap.size w)
  have H : ((scrimlaw07_awake.f k).bind fun t226 => (if t226 = true then (if (l0.length : Int) > 50 then (scrimlaw07_ScanWords.j0 k l0 a1 true) else (if a1 < 0 then (scrimlaw07_ScanWords.j0 k l0 a1 true) else (scrimlaw07_ScanWords.j0 k l0 a1 (decide (a1 > 3))))) else (some false))) = some r := h
  clear h
  replace H := Option.bind_eq_some_iff.mp H
  obtain ⟨t226, A30, H⟩ := H
  replace H : (if t226 = true then (if (l0.length : Int) > 50 then (scrimlaw07_ScanWords.j0 k l0 a1 true) else (if a1 < 0 then (scrimlaw07_ScanWords.j0 k l0 a1 true) else (scrimlaw07_ScanWords.j0 k l0 a1 (decide (a1 > 3))))) else (some false)) = some r := H
  have A3 := Aside0.mk A30
  clear A30
  by_cases c4 : t226 = true
  · subst c4
    have H1 : (if (l0.length : Int) > 50 then (scrimlaw07_ScanWords.j0 k l0 a1 true) else (if a1 < 0 then (scrimlaw07_ScanWords.j0 k l0 a1 true) else (scrimlaw07_ScanWords.j0 k l0 a1 (decide (a1 > 3))))) = some r := by rw [if_pos rfl] at H; exact H
    clear H
    have H := H1
    clear H1
    have HC5 := Aside0.mk H
    clear H
    go_enter Tryd.func5, Tryd.ntmps5
    go_upto_region 3 with (first | ((with_reducible refine gate_callee (f := 7) rfl ?_); refine goesL_ (some 11) rfl rfl Tryd.func7 (by kernel_rfl) rfl #[] rfl (by (try simp only [List.map_toArray, List.map_cons, List.map_nil]); first | done | rfl | (simp only [List.length_drop, List.length_take]; rfl)) ?_; (with_reducible refine (scrimlaw07_awake.calls k  true rfl _ A3.out (HMX.out.below (by repeat (first | (with_reducible first | exact HB.out | apply below_alloc | apply pw_below_drewN | apply below_drew1) | exact HB.out)))).mono ?_); rintro e w6 ⟨rfl, hb⟩; refine ⟨_, rfl, ?_⟩; have n0_ := Aside0.mk (below_step (by repeat (first | (with_reducible first | exact HB.out | apply below_alloc | apply pw_below_drewN | apply below_drew1) | exact HB.out)) hb); clear HB; have HB := n0_; clear n0_; (try clear hb); (try clear hb2); (try clear hk); (try clear hi)))
    (try simp only [Act.put, List.setIfInBounds_toArray, List.set_cons_zero, List.set_cons_succ])
    go_cut [23] (fun v23 wc => ∃ (kq : Nat) (x23_4 : Bool), v23 = .bool x23_4 ∧ Aside0 (scrimlaw07_ScanWords.j0 kq l0 a1 x23_4 = some r) ∧ Aside0 (kq ≤ k) ∧ Aside0 (Below w.heap.size w wc))
    case first =>
      have H := HC5.out
      clear HC5
      by_cases c7 : (l0.length : Int) > 50
      · rw [if_pos c7] at H
        have c7b0 : decide (50 < (l0.length : Int)) = true := decide_eq_true c7
        have c7b1 : decide (50 < l0.length) = true := decide_eq_true (by omega)
        clear c7
        (first | rw [c7b0] | (simp only [i64_w, i32_w]; rw [c7b0]) | skip)
        have H' := Aside0.mk H
        clear H
        go_wp2
        go_meet
        case rel => exact ⟨_, (true), (by first | rfl | (simp; done) | (simp [*]; done)), H', ⟨by first | omega | exact Nat.le_refl _⟩, ⟨by repeat (first | (with_reducible first | exact HB.out | apply below_alloc | apply pw_below_drewN | apply below_drew1) | exact HB.out)⟩⟩
      · rw [if_neg c7] at H
        have c7b0 : decide (50 < (l0.length : Int)) = false := decide_eq_false c7
        have c7b1 : decide (50 < l0.length) = false := decide_eq_false (by omega)
        clear c7
        (first | rw [c7b0] | (simp only [i64_w, i32_w]; rw [c7b0]) | skip)
        by_cases c8 : a1 < 0
        · rw [if_pos c8] at H
          have c8b0 : decide (a1 < 0) = true := decide_eq_true c8
          clear c8
          have H' := Aside0.mk H
          clear H
          go_wp2
          go_meet
          case rel => exact ⟨_, (true), (by first | rfl | (simp; done) | (simp [*]; done)), H', ⟨by first | omega | exact Nat.le_refl _⟩, ⟨by repeat (first | (with_reducible first | exact HB.out | apply below_alloc | apply pw_below_drewN | apply below_drew1) | exact HB.out)⟩⟩
        · rw [if_neg c8] at H
          have c8b0 : decide (a1 < 0) = false := decide_eq_false c8
          clear c8
          have H' := Aside0.mk H
          clear H
          go_wp2
          go_meet
          case rel => exact ⟨_, (decide (a1 > 3)), (by first | rfl | (simp; done) | (simp [*]; done)), H', ⟨by first | omega | exact Nat.le_refl _⟩, ⟨by repeat (first | (with_reducible first | exact HB.out | apply below_alloc | apply pw_below_drewN | apply below_drew1) | exact HB.out)⟩⟩
    case rest =>
      clear HC5
      try clear p2
      try clear c4
      try clear c5
      try clear c7
      try clear c7b0
      try clear c7b1
      try clear c8
      try clear c8b0
      obtain ⟨kq, x23_4, rfl, HA, HJ4, HB⟩ := hcut
      cases kq with
      | zero => exact absurd HA.out (by simp [scrimlaw07_ScanWords.j0])
      | succ kj4 =>
        have H := HA.out
        clear HA
        simp only [scrimlaw07_ScanWords.j0] at H
        by_cases c9 : x23_4 = true
        · subst c9
          have H1 : (some true) = some r := by rw [if_pos rfl] at H; exact H
          clear H
          have H := H1
          clear H1
          obtain rfl := Option.some.inj H; clear hrt; try clear H
          go_wp2
          go_ret
          exact ⟨by first | rfl | (simp [errW_none, errW_some] <;> rfl) | (simp [*, errW_none, errW_some] <;> rfl), by repeat (first | (with_reducible first | exact HB.out | apply below_alloc | apply pw_below_drewN | apply below_drew1) | exact HB.out)⟩
        · replace c9 := Bool.eq_false_iff.mpr c9
          subst c9
          have H1 : (scrimlaw07_ScanWords.l0 kj4 l0 a1 (⟨#[]⟩ : ByteArray) (⟨#[]⟩ : ByteArray) l0 (l0.length : Int) 0) = some r := by rw [if_neg (show ¬ (false = true) by decide)] at H; exact H
          clear H
          have H := H1
          clear H1
          have H' := Aside0.mk H
          clear H
          go_wp2
          go_loopg [5, 6, 26] kj4 (fun kq v5 v6 v26 w' => ∃ (x5_2 : ByteArray) (x6_2 : ByteArray) (x26_2 : Int), v5 = .string x5_2 ∧ v6 = .string x6_2 ∧ v26 = .int .i64 x26_2 ∧ Aside0 (scrimlaw07_ScanWords.l0 kq l0 a1 x5_2 x6_2 l0 (l0.length : Int) x26_2 = some r) ∧ Aside0 (kq ≤ kj4) ∧ Aside0 (Below w.heap.size w w'))
          case atStart => exact ⟨((⟨#[]⟩ : ByteArray)), ((⟨#[]⟩ : ByteArray)), (0), (by first | rfl | (simp; done) | (simp [*]; done)), (by first | rfl | (simp; done) | (simp [*]; done)), (by first | rfl | (simp; done) | (simp [*]; done)), H', ⟨Nat.le_refl _⟩, ⟨by repeat (first | (with_reducible first | exact HB.out | apply below_alloc | apply pw_below_drewN | apply below_drew1) | exact HB.out)⟩⟩
          case round =>
            clear H'
            try clear p2
            try clear c4
            try clear c5
            try clear c7
            try clear c7b0
            try clear c7b1
            try clear c8
            try clear c8b0
            try clear c9
            try clear p2
            obtain ⟨x5_2, x6_2, x26_2, rfl, rfl, rfl, HA, HK2, HB⟩ := hrel
            cases gk with
            | zero => exact absurd HA.out (by simp [scrimlaw07_ScanWords.l0])
            | succ k2 =>
              have H := HA.out
              clear HA
              simp only [scrimlaw07_ScanWords.l0] at H
              by_cases c10 : x26_2 < (l0.length : Int)
              · rw [if_pos c10] at H
                have c10b0 : decide (x26_2 < (l0.length : Int)) = true := decide_eq_true c10
                clear c10
                by_cases c11 : 0 ≤ x26_2
                · rw [if_pos c11] at H
                  have c11b0 : decide (0 ≤ x26_2) = true := decide_eq_true c11
                  clear c11
                  by_cases c12 : x26_2 < (l0.length : Int)
                  · rw [if_pos c12] at H
                    have c12b0 : decide (x26_2 < (l0.length : Int)) = true := decide_eq_true c12
                    clear c12
                    have HC13 := Aside0.mk H
                    clear H
                    have p227 : 0 ≤ (x26_2 : Int) := of_decide_eq_true (by first | (with_reducible assumption) | assumption)
                    have q227 : x26_2 < (l0.length : Int) := of_decide_eq_true (by first | (with_reducible assumption) | assumption)
                    obtain ⟨ad227, e227, hx227_0⟩ := Kd.at_string HR0.out x26_2 p227 q227
                    cases e227
                    replace hx227_0 := (HB.out.cell (World.block_lt_of_cell? w _ hx227_0)).trans hx227_0
                    replace p227 := eq_true p227
                    replace q227 := eq_true q227
                    go_upto_region 10 with (fail)
                    go_cut [37] (fun v37 wc => ∃ (kq : Nat) (x37_12 : Bool), v37 = .bool x37_12 ∧ Aside0 (scrimlaw07_ScanWords.j2 kq l0 a1 x5_2 x6_2 x26_2 (rdOf ByteArray.empty l0 x26_2) l0 (l0.length : Int) x26_2 x37_12 = some r) ∧ Aside0 (kq ≤ k2) ∧ Aside0 (Below w.heap.size w wc))
                    case first =>
                      have H := HC13.out
                      clear HC13
                      by_cases c14 : (rdOf ByteArray.empty l0 x26_2).toList = ([] : List UInt8)
                      · rw [if_pos c14] at H
                        have c14b0 : ((rdOf ByteArray.empty l0 x26_2).toList == ([] : List UInt8)) = true := beq_iff_eq.mpr c14
                        have c14b1 : ((rdOf ByteArray.empty l0 x26_2).toList != ([] : List UInt8)) = false := bne_eq_false_iff_eq.mpr c14
                        clear c14
                        (first | rw [c14b0] | (simp only [i64_w, i32_w]; rw [c14b0]) | skip)
                        have H' := Aside0.mk H
                        clear H
                        go_wp2
                        go_meet
                        case rel => exact ⟨_, (true), (by first | rfl | (simp; done) | (simp [*]; done)), H', ⟨by have := HJ4.out; have := HK2.out; first | omega | exact Nat.le_refl _⟩, ⟨by repeat (first | (with_reducible first | exact HB.out | apply below_alloc | apply pw_below_drewN | apply below_drew1) | exact HB.out)⟩⟩
                      · rw [if_neg c14] at H
                        have c14b0 : ((rdOf ByteArray.empty l0 x26_2).toList == ([] : List UInt8)) = false := beq_eq_false_iff_ne.mpr c14
                        have c14b1 : ((rdOf ByteArray.empty l0 x26_2).toList != ([] : List UInt8)) = true := bne_iff_ne.mpr c14
                        (first | rw [c14b0] | (simp only [i64_w, i32_w]; rw [c14b0]) | skip)
                        have H' := Aside0.mk H
                        clear H
                        go_wp2
                        go_meet
                        case rel => exact ⟨_, (decide (((rdOf ByteArray.empty l0 x26_2).size : Int) > 20)), (by first | rfl | (simp; done) | (simp [*]; done)), H', ⟨by have := HJ4.out; have := HK2.out; first | omega | exact Nat.le_refl _⟩, ⟨by repeat (first | (with_reducible first | exact HB.out | apply below_alloc | apply pw_below_drewN | apply below_drew1) | exact HB.out)⟩⟩
                    case rest =>
                      clear HC13
                      try clear c1
                      try clear p2
                      try clear q2
                      try clear hx2
                      try clear c4
                      try clear c5
                      try clear c7
                      try clear c7b0
                      try clear c7b1
                      try clear c8
                      try clear c8b0
                      try clear c9
                      try clear c10
                      try clear c10b0
                      try clear c11
                      try clear c11b0
                      try clear c12
                      try clear c12b0
                      try clear c14
                      try clear c14b0
                      try clear c14b1
                      try clear hx227_0
                      try clear p2
                      try clear p227
                      try clear q227
                      obtain ⟨kq, x37_12, rfl, HA, HJ12, HB⟩ := hcut
                      cases kq with
                      | zero => exact absurd HA.out (by simp [scrimlaw07_ScanWords.j2])
                      | succ kj12 =>
                        have H := HA.out
                        clear HA
                        simp only [scrimlaw07_ScanWords.j2] at H
                        by_cases c15 : x37_12 = true
                        · subst c15
                          have H1 : (some true) = some r := by rw [if_pos rfl] at H; exact H
                          clear H
                          have H := H1
                          clear H1
                          obtain rfl := Option.some.inj H; clear hrt; try clear H
                          go_wp2
                          go_ret
                          exact ⟨by first | rfl | (simp [errW_none, errW_some] <;> rfl) | (simp [*, errW_none, errW_some] <;> rfl), by repeat (first | (with_reducible first | exact HB.out | apply below_alloc | apply pw_below_drewN | apply below_drew1) | exact HB.out)⟩
                        · replace c15 := Bool.eq_false_iff.mpr c15
                          subst c15
                          have H1 : (scrimlaw07_ScanWords.l1 kj12 l0 a1 x5_2 x6_2 x26_2 (rdOf ByteArray.empty l0 x26_2) 0 l0 (l0.length : Int) x26_2) = some r := by rw [if_neg (show ¬ (false = true) by decide)] at H; exact H
                          clear H
                          have H := H1
                          clear H1
                          have H' := Aside0.mk H
                          clear H
                          go_wp2
                          go_loopg [9] kj12 (fun kq v9 w' => ∃ (x9_4 : Int), v9 = .int .i64 x9_4 ∧ Aside0 (scrimlaw07_ScanWords.l1 kq l0 a1 x5_2 x6_2 x26_2 (rdOf ByteArray.empty l0 x26_2) x9_4 l0 (l0.length : Int) x26_2 = some r) ∧ Aside0 (kq ≤ kj12) ∧ Aside0 (Below w.heap.size w w'))
                          case atStart => exact ⟨(0), (by first | rfl | (simp; done) | (simp [*]; done)), H', ⟨Nat.le_refl _⟩, ⟨by repeat (first | (with_reducible first | exact HB.out | apply below_alloc | apply pw_below_drewN | apply below_drew1) | exact HB.out)⟩⟩
                          case round =>
                            clear H'
                            try clear c1
                            try clear p2
                            try clear q2
                            try clear hx2
                            try clear c4
                            try clear c5
                            try clear c7
                            try clear c7b0
                            try clear c7b1
                            try clear c8
                            try clear c8b0
                            try clear c9
                            try clear c10
                            try clear c10b0
                            try clear c11
                            try clear c11b0
                            try clear c12
                            try clear c12b0
                            try clear c14
                            try clear c14b0
                            try clear c14b1
                            try clear c15
                            try clear hx227_0
                            try clear p2
                            try clear p227
                            try clear q2
                            try clear q227
                            obtain ⟨x9_4, rfl, HA, HK4, HB⟩ := hrel
                            cases gk with
                            | zero => exact absurd HA.out (by simp [scrimlaw07_ScanWords.l1])
                            | succ k4 =>
                              have H := HA.out
                              clear HA
                              simp only [scrimlaw07_ScanWords.l1] at H
                              by_cases c16 : x9_4 < ((rdOf ByteArray.empty l0 x26_2).size : Int)
                              · rw [if_pos c16] at H
                                have c16b0 : decide (x9_4 < ((rdOf ByteArray.empty l0 x26_2).size : Int)) = true := decide_eq_true c16
                                clear c16
                                by_cases c17 : 0 ≤ x9_4
                                · rw [if_pos c17] at H
                                  have c17b0 : decide (0 ≤ x9_4) = true := decide_eq_true c17
                                  clear c17
                                  by_cases c19 : (bt (rdOf ByteArray.empty l0 x26_2) x9_4) = 32
                                  · rw [if_pos c19] at H
                                    have c19b0 : ((bt (rdOf ByteArray.empty l0 x26_2) x9_4) == 32) = true := beq_iff_eq.mpr c19
                                    have c19b1 : ((bt (rdOf ByteArray.empty l0 x26_2) x9_4) != 32) = false := bne_eq_false_iff_eq.mpr c19
                                    clear c19
                                    obtain rfl := Option.some.inj H; clear hrt; try clear H
                                    have p18 : 0 ≤ (x9_4 : Int) := of_decide_eq_true (by first | (with_reducible assumption) | assumption)
                                    have q18 : x9_4 < ((rdOf ByteArray.empty l0 x26_2).size : Int) := of_decide_eq_true (by first | (with_reducible assumption) | assumption)
                                    have hx18 := bt_at (rdOf ByteArray.empty l0 x26_2) x9_4
                                    replace p18 := eq_true p18
                                    replace q18 := eq_true q18
                                    go_wp2
                                    go_ret
                                    exact ⟨by first | rfl | (simp [errW_none, errW_some] <;> rfl) | (simp [*, errW_none, errW_some] <;> rfl), by repeat (first | (with_reducible first | exact HB.out | apply below_alloc | apply pw_below_drewN | apply below_drew1) | exact HB.out)⟩
                                  · rw [if_neg c19] at H
                                    have c19b0 : ((bt (rdOf ByteArray.empty l0 x26_2) x9_4) == 32) = false := beq_eq_false_iff_ne.mpr c19
                                    have c19b1 : ((bt (rdOf ByteArray.empty l0 x26_2) x9_4) != 32) = true := bne_iff_ne.mpr c19
                                    by_cases c20 : (bt (rdOf ByteArray.empty l0 x26_2) x9_4) = 9
                                    · rw [if_pos c20] at H
                                      have c20b0 : ((bt (rdOf ByteArray.empty l0 x26_2) x9_4) == 9) = true := beq_iff_eq.mpr c20
                                      have c20b1 : ((bt (rdOf ByteArray.empty l0 x26_2) x9_4) != 9) = false := bne_eq_false_iff_eq.mpr c20
                                      clear c20
                                      obtain rfl := Option.some.inj H; clear hrt; try clear H
                                      have p18 : 0 ≤ (x9_4 : Int) := of_decide_eq_true (by first | (with_reducible assumption) | assumption)
                                      have q18 : x9_4 < ((rdOf ByteArray.empty l0 x26_2).size : Int) := of_decide_eq_true (by first | (with_reducible assumption) | assumption)
                                      have hx18 := bt_at (rdOf ByteArray.empty l0 x26_2) x9_4
                                      replace p18 := eq_true p18
                                      replace q18 := eq_true q18
                                      go_wp2
                                      go_ret
                                      exact ⟨by first | rfl | (simp [errW_none, errW_some] <;> rfl) | (simp [*, errW_none, errW_some] <;> rfl), by repeat (first | (with_reducible first | exact HB.out | apply below_alloc | apply pw_below_drewN | apply below_drew1) | exact HB.out)⟩
                                    · rw [if_neg c20] at H
                                      have c20b0 : ((bt (rdOf ByteArray.empty l0 x26_2) x9_4) == 9) = false := beq_eq_false_iff_ne.mpr c20
                                      have c20b1 : ((bt (rdOf ByteArray.empty l0 x26_2) x9_4) != 9) = true := bne_iff_ne.mpr c20
                                      by_cases c21 : (bt (rdOf ByteArray.empty l0 x26_2) x9_4) = 10
                                      · rw [if_pos c21] at H
                                        have c21b0 : ((bt (rdOf ByteArray.empty l0 x26_2) x9_4) == 10) = true := beq_iff_eq.mpr c21
                                        have c21b1 : ((bt (rdOf ByteArray.empty l0 x26_2) x9_4) != 10) = false := bne_eq_false_iff_eq.mpr c21
                                        clear c21
                                        obtain rfl := Option.some.inj H; clear hrt; try clear H
                                        have p18 : 0 ≤ (x9_4 : Int) := of_decide_eq_true (by first | (with_reducible assumption) | assumption)
                                        have q18 : x9_4 < ((rdOf ByteArray.empty l0 x26_2).size : Int) := of_decide_eq_true (by first | (with_reducible assumption) | assumption)
                                        have hx18 := bt_at (rdOf ByteArray.empty l0 x26_2) x9_4
                                        replace p18 := eq_true p18
                                        replace q18 := eq_true q18
                                        go_wp2
                                        go_ret
                                        exact ⟨by first | rfl | (simp [errW_none, errW_some] <;> rfl) | (simp [*, errW_none, errW_some] <;> rfl), by repeat (first | (with_reducible first | exact HB.out | apply below_alloc | apply pw_below_drewN | apply below_drew1) | exact HB.out)⟩
                                      · rw [if_neg c21] at H
                                        have c21b0 : ((bt (rdOf ByteArray.empty l0 x26_2) x9_4) == 10) = false := beq_eq_false_iff_ne.mpr c21
                                        have c21b1 : ((bt (rdOf ByteArray.empty l0 x26_2) x9_4) != 10) = true := bne_iff_ne.mpr c21
                                        by_cases c22 : (bt (rdOf ByteArray.empty l0 x26_2) x9_4) = 13
                                        · rw [if_pos c22] at H
                                          have c22b0 : ((bt (rdOf ByteArray.empty l0 x26_2) x9_4) == 13) = true := beq_iff_eq.mpr c22
                                          have c22b1 : ((bt (rdOf ByteArray.empty l0 x26_2) x9_4) != 13) = false := bne_eq_false_iff_eq.mpr c22
                                          clear c22
                                          obtain rfl := Option.some.inj H; clear hrt; try clear H
                                          have p18 : 0 ≤ (x9_4 : Int) := of_decide_eq_true (by first | (with_reducible assumption) | assumption)
                                          have q18 : x9_4 < ((rdOf ByteArray.empty l0 x26_2).size : Int) := of_decide_eq_true (by first | (with_reducible assumption) | assumption)
                                          have hx18 := bt_at (rdOf ByteArray.empty l0 x26_2) x9_4
                                          replace p18 := eq_true p18
                                          replace q18 := eq_true q18
                                          go_wp2
                                          go_ret
                                          exact ⟨by first | rfl | (simp [errW_none, errW_some] <;> rfl) | (simp [*, errW_none, errW_some] <;> rfl), by repeat (first | (with_reducible first | exact HB.out | apply below_alloc | apply pw_below_drewN | apply below_drew1) | exact HB.out)⟩
                                        · rw [if_neg c22] at H
                                          have c22b0 : ((bt (rdOf ByteArray.empty l0 x26_2) x9_4) == 13) = false := beq_eq_false_iff_ne.mpr c22
                                          have c22b1 : ((bt (rdOf ByteArray.empty l0 x26_2) x9_4) != 13) = true := bne_iff_ne.mpr c22
                                          by_cases c23 : (bt (rdOf ByteArray.empty l0 x26_2) x9_4) = 44
                                          · rw [if_pos c23] at H
                                            have c23b0 : ((bt (rdOf ByteArray.empty l0 x26_2) x9_4) == 44) = true := beq_iff_eq.mpr c23
                                            have c23b1 : ((bt (rdOf ByteArray.empty l0 x26_2) x9_4) != 44) = false := bne_eq_false_iff_eq.mpr c23
                                            clear c23
                                            obtain rfl := Option.some.inj H; clear hrt; try clear H
                                            have p18 : 0 ≤ (x9_4 : Int) := of_decide_eq_true (by first | (with_reducible assumption) | assumption)
                                            have q18 : x9_4 < ((rdOf ByteArray.empty l0 x26_2).size : Int) := of_decide_eq_true (by first | (with_reducible assumption) | assumption)
                                            have hx18 := bt_at (rdOf ByteArray.empty l0 x26_2) x9_4
                                            replace p18 := eq_true p18
                                            replace q18 := eq_true q18
                                            go_wp2
                                            go_ret
                                            exact ⟨by first | rfl | (simp [errW_none, errW_some] <;> rfl) | (simp [*, errW_none, errW_some] <;> rfl), by repeat (first | (with_reducible first | exact HB.out | apply below_alloc | apply pw_below_drewN | apply below_drew1) | exact HB.out)⟩
                                          · rw [if_neg c23] at H
                                            have c23b0 : ((bt (rdOf ByteArray.empty l0 x26_2) x9_4) == 44) = false := beq_eq_false_iff_ne.mpr c23
                                            have c23b1 : ((bt (rdOf ByteArray.empty l0 x26_2) x9_4) != 44) = true := bne_iff_ne.mpr c23
                                            have H' := Aside0.mk H
                                            clear H
                                            have p18 : 0 ≤ (x9_4 : Int) := of_decide_eq_true (by first | (with_reducible assumption) | assumption)
                                            have q18 : x9_4 < ((rdOf ByteArray.empty l0 x26_2).size : Int) := of_decide_eq_true (by first | (with_reducible assumption) | assumption)
                                            have hx18 := bt_at (rdOf ByteArray.empty l0 x26_2) x9_4
                                            replace p18 := eq_true p18
                                            replace q18 := eq_true q18
                                            go_wp2
                                            go_roundg k4
                                            case measure => have := HJ4.out; have := HK2.out; have := HJ12.out; have := HK4.out; omega
                                            case rel => exact ⟨(wrap64 (x9_4 + 1)), (by first | rfl | (simp; done) | (simp [*]; done)), H', ⟨by have := HJ4.out; have := HK2.out; have := HJ12.out; have := HK4.out; omega⟩, ⟨by repeat (first | (with_reducible first | exact HB.out | apply below_alloc | apply pw_below_drewN | apply below_drew1) | exact HB.out)⟩⟩
                                · rw [if_neg c17] at H
                                  exact absurd H (by simp)
                              · rw [if_neg c16] at H
                                have c16b0 : decide (x9_4 < ((rdOf ByteArray.empty l0 x26_2).size : Int)) = false := decide_eq_false c16
                                clear c16
                                by_cases c24 : 0 ≤ a1
                                · rw [if_pos c24] at H
                                  have c24b0 := eq_true c24
                                  have c24b1 : decide (0 ≤ a1) = true := decide_eq_true c24
                                  clear c24
                                  by_cases c25 : a1 ≤ 4
                                  · rw [if_pos c25] at H
                                    have c25b0 := eq_true c25
                                    have c25b1 : decide (a1 ≤ 4) = true := decide_eq_true c25
                                    clear c25
                                    by_cases c26 : ((⟨#[32, 9, 10, 13]⟩ : ByteArray).extract (a1 : Int).toNat (⟨#[32, 9, 10, 13]⟩ : ByteArray).size).size + (rdOf ByteArray.empty l0 x26_2).size ≤ 9223372036854775807
                                    · rw [if_pos c26] at H
                                      have c26b0 := eq_true c26
                                      have c26b1 : decide (((⟨#[32, 9, 10, 13]⟩ : ByteArray).extract (a1 : Int).toNat (⟨#[32, 9, 10, 13]⟩ : ByteArray).size).size + (rdOf ByteArray.empty l0 x26_2).size ≤ 9223372036854775807) = true := decide_eq_true c26
                                      try have c26b2 : (9223372036854775807 < ((⟨#[32, 9, 10, 13]⟩ : ByteArray).extract (a1 : Int).toNat (⟨#[32, 9, 10, 13]⟩ : ByteArray).size).size + (rdOf ByteArray.empty l0 x26_2).size) = False := eq_false (Nat.not_lt.2 c26)
                                      by_cases c27 : (((⟨#[32, 9, 10, 13]⟩ : ByteArray).extract (a1 : Int).toNat (⟨#[32, 9, 10, 13]⟩ : ByteArray).size) ++ (rdOf ByteArray.empty l0 x26_2)).size + 1 ≤ 9223372036854775807
                                      · rw [if_pos c27] at H
                                        have c27b0 := eq_true c27
                                        have c27b1 : decide ((((⟨#[32, 9, 10, 13]⟩ : ByteArray).extract (a1 : Int).toNat (⟨#[32, 9, 10, 13]⟩ : ByteArray).size) ++ (rdOf ByteArray.empty l0 x26_2)).size + 1 ≤ 9223372036854775807) = true := decide_eq_true c27
                                        try have c27b2 : (9223372036854775807 < (((⟨#[32, 9, 10, 13]⟩ : ByteArray).extract (a1 : Int).toNat (⟨#[32, 9, 10, 13]⟩ : ByteArray).size) ++ (rdOf ByteArray.empty l0 x26_2)).size + 1) = False := eq_false (Nat.not_lt.2 c27)
                                        by_cases c28 : x5_2.size + ((((⟨#[32, 9, 10, 13]⟩ : ByteArray).extract (a1 : Int).toNat (⟨#[32, 9, 10, 13]⟩ : ByteArray).size) ++ (rdOf ByteArray.empty l0 x26_2)) ++ (⟨#[32]⟩ : ByteArray)).size ≤ 9223372036854775807
                                        · rw [if_pos c28] at H
                                          have c28b0 := eq_true c28
                                          have c28b1 : decide (x5_2.size + ((((⟨#[32, 9, 10, 13]⟩ : ByteArray).extract (a1 : Int).toNat (⟨#[32, 9, 10, 13]⟩ : ByteArray).size) ++ (rdOf ByteArray.empty l0 x26_2)) ++ (⟨#[32]⟩ : ByteArray)).size ≤ 9223372036854775807) = true := decide_eq_true c28
                                          try have c28b2 : (9223372036854775807 < x5_2.size + ((((⟨#[32, 9, 10, 13]⟩ : ByteArray).extract (a1 : Int).toNat (⟨#[32, 9, 10, 13]⟩ : ByteArray).size) ++ (rdOf ByteArray.empty l0 x26_2)) ++ (⟨#[32]⟩ : ByteArray)).size) = False := eq_false (Nat.not_lt.2 c28)
                                          by_cases c29 : x26_2 > 0
                                          · rw [if_pos c29] at H
                                            have c29b0 : decide (0 < x26_2) = true := decide_eq_true c29
                                            clear c29
                                            by_cases c30 : x6_2.size + 3 ≤ 9223372036854775807
                                            · rw [if_pos c30] at H
                                              have c30b0 := eq_true c30
                                              have c30b1 : decide (x6_2.size + 3 ≤ 9223372036854775807) = true := decide_eq_true c30
                                              try have c30b2 : (9223372036854775807 < x6_2.size + 3) = False := eq_false (Nat.not_lt.2 c30)
                                              by_cases c31 : (x6_2 ++ (⟨#[32, 44, 32]⟩ : ByteArray)).size + (rdOf ByteArray.empty l0 x26_2).size ≤ 9223372036854775807
                                              · rw [if_pos c31] at H
                                                have c31b0 := eq_true c31
                                                have c31b1 : decide ((x6_2 ++ (⟨#[32, 44, 32]⟩ : ByteArray)).size + (rdOf ByteArray.empty l0 x26_2).size ≤ 9223372036854775807) = true := decide_eq_true c31
                                                try have c31b2 : (9223372036854775807 < (x6_2 ++ (⟨#[32, 44, 32]⟩ : ByteArray)).size + (rdOf ByteArray.empty l0 x26_2).size) = False := eq_false (Nat.not_lt.2 c31)
                                                have H' := Aside0.mk H
                                                clear H
                                                go_wp2
                                                repeat (next => (exfalso; rename_i hx_; have : ByteArray.size ⟨#[32]⟩ = 1 := rfl; have : ByteArray.size ⟨#[32, 44, 32]⟩ = 3 := rfl; have : ByteArray.size ⟨#[32, 9, 10, 13]⟩ = 4 := rfl; (try simp only [ByteArray.size_extract, ByteArray.size_append] at c26); (try simp only [ByteArray.size_extract, ByteArray.size_append] at c27); (try simp only [ByteArray.size_extract, ByteArray.size_append] at c28); (try simp only [ByteArray.size_extract, ByteArray.size_append] at c30); (try simp only [ByteArray.size_extract, ByteArray.size_append] at c31); (try simp only [ByteArray.size_extract, ByteArray.size_append] at hx_); omega))
                                                go_roundg k4
                                                case measure => have := HJ4.out; have := HK2.out; have := HJ12.out; have := HK4.out; omega
                                                case rel => exact ⟨(x5_2 ++ ((((⟨#[32, 9, 10, 13]⟩ : ByteArray).extract (a1 : Int).toNat (⟨#[32, 9, 10, 13]⟩ : ByteArray).size) ++ (rdOf ByteArray.empty l0 x26_2)) ++ (⟨#[32]⟩ : ByteArray))), ((x6_2 ++ (⟨#[32, 44, 32]⟩ : ByteArray)) ++ (rdOf ByteArray.empty l0 x26_2)), (wrap64 (x26_2 + 1)), (by first | rfl | (simp; done) | (simp [*]; done)), (by first | rfl | (simp; done) | (simp [*]; done)), (by first | rfl | (simp; done) | (simp [*]; done)), H', ⟨by have := HJ4.out; have := HK2.out; have := HJ12.out; have := HK4.out; omega⟩, ⟨by repeat (first | (with_reducible first | exact HB.out | apply below_alloc | apply pw_below_drewN | apply below_drew1) | exact HB.out)⟩⟩
                                              · rw [if_neg c31] at H
                                                exact absurd H (by simp)
                                            · rw [if_neg c30] at H
                                              exact absurd H (by simp)
                                          · rw [if_neg c29] at H
                                            have c29b0 : decide (0 < x26_2) = false := decide_eq_false c29
                                            clear c29
                                            by_cases c32 : x6_2.size + (rdOf ByteArray.empty l0 x26_2).size ≤ 9223372036854775807
                                            · rw [if_pos c32] at H
                                              have c32b0 := eq_true c32
                                              have c32b1 : decide (x6_2.size + (rdOf ByteArray.empty l0 x26_2).size ≤ 9223372036854775807) = true := decide_eq_true c32
                                              try have c32b2 : (9223372036854775807 < x6_2.size + (rdOf ByteArray.empty l0 x26_2).size) = False := eq_false (Nat.not_lt.2 c32)
                                              have H' := Aside0.mk H
                                              clear H
                                              go_wp2
                                              repeat (next => (exfalso; rename_i hx_; have : ByteArray.size ⟨#[32]⟩ = 1 := rfl; have : ByteArray.size ⟨#[32, 9, 10, 13]⟩ = 4 := rfl; (try simp only [ByteArray.size_extract, ByteArray.size_append] at c26); (try simp only [ByteArray.size_extract, ByteArray.size_append] at c27); (try simp only [ByteArray.size_extract, ByteArray.size_append] at c28); (try simp only [ByteArray.size_extract, ByteArray.size_append] at c32); (try simp only [ByteArray.size_extract, ByteArray.size_append] at hx_); omega))
                                              go_roundg k4
                                              case measure => have := HJ4.out; have := HK2.out; have := HJ12.out; have := HK4.out; omega
                                              case rel => exact ⟨(x5_2 ++ ((((⟨#[32, 9, 10, 13]⟩ : ByteArray).extract (a1 : Int).toNat (⟨#[32, 9, 10, 13]⟩ : ByteArray).size) ++ (rdOf ByteArray.empty l0 x26_2)) ++ (⟨#[32]⟩ : ByteArray))), (x6_2 ++ (rdOf ByteArray.empty l0 x26_2)), (wrap64 (x26_2 + 1)), (by first | rfl | (simp; done) | (simp [*]; done)), (by first | rfl | (simp; done) | (simp [*]; done)), (by first | rfl | (simp; done) | (simp [*]; done)), H', ⟨by have := HJ4.out; have := HK2.out; have := HJ12.out; have := HK4.out; omega⟩, ⟨by repeat (first | (with_reducible first | exact HB.out | apply below_alloc | apply pw_below_drewN | apply below_drew1) | exact HB.out)⟩⟩
                                            · rw [if_neg c32] at H
                                              exact absurd H (by simp)
                                        · rw [if_neg c28] at H
                                          exact absurd H (by simp)
                                      · rw [if_neg c27] at H
                                        exact absurd H (by simp)
                                    · rw [if_neg c26] at H
                                      exact absurd H (by simp)
                                  · rw [if_neg c25] at H
                                    exact absurd H (by simp)
                                · rw [if_neg c24] at H
                                  exact absurd H (by simp)
                  · rw [if_neg c12] at H
                    exact absurd H (by simp)
                · rw [if_neg c11] at H
                  exact absurd H (by simp)
              · rw [if_neg c10] at H
                have c10b0 : decide (x26_2 < (l0.length : Int)) = false := decide_eq_false c10
                clear c10
                have HC33 := Aside0.mk H
                clear H
                go_upto_region 23 with (fail)
                go_cut [89] (fun v89 wc => ∃ (kq : Nat) (x89_32 : Bool), v89 = .bool x89_32 ∧ Aside0 (scrimlaw07_ScanWords.j4 kq l0 x5_2 x89_32 = some r) ∧ Aside0 (kq ≤ k2) ∧ Aside0 (Below w.heap.size w wc))
                case first =>
                  have H := HC33.out
                  clear HC33
                  by_cases c34 : (l0.length : Int) > 0
                  · rw [if_pos c34] at H
                    have c34b0 : decide (0 < (l0.length : Int)) = true := decide_eq_true c34
                    have c34b1 : decide (0 < l0.length) = true := decide_eq_true (by omega)
                    clear c34
                    (first | rw [c34b0] | (simp only [i64_w, i32_w]; rw [c34b0]) | skip)
                    replace H := Option.bind_eq_some_iff.mp H
                    obtain ⟨t228, A350, H⟩ := H
                    replace H : ((scrimref07_Same.f k2 t228 l0).bind fun t231 => (scrimlaw07_ScanWords.j4 k2 l0 x5_2 (!t231))) = some r := H
                    have A35 := Aside0.mk A350
                    clear A350
                    replace H := Option.bind_eq_some_iff.mp H
                    obtain ⟨t231, A360, H⟩ := H
                    replace H : (scrimlaw07_ScanWords.j4 k2 l0 x5_2 (!t231)) = some r := H
                    have A36 := Aside0.mk A360
                    clear A360
                    have H' := Aside0.mk H
                    clear H
                    go_wp2_with (first | (go_at_call 15; (with_reducible refine (scan_Split.calls x6_2 44 t228 _ A35.out).mono ?_); rintro e w37 ⟨v229, rfl, ho0, hb⟩; have n0_ := Aside0.mk (Kd.R_lower ho0 (below_size (by repeat (first | (with_reducible first | exact HB.out | apply below_alloc | apply pw_below_drewN | apply below_drew1) | exact HB.out)))); have n1_ := Aside0.mk (below_step (by repeat (first | (with_reducible first | exact HB.out | apply below_alloc | apply pw_below_drewN | apply below_drew1) | exact HB.out)) hb); clear HB; have HO230 := n0_; have HB := n1_; clear n0_ n1_; (try clear hb); (try clear hb2); (try clear hk); (try clear hi); (try clear ho0); obtain ⟨Ao38, co38, eo38⟩ := Kd.R_slice HO230.out; subst eo38) | (go_at_call 14; (with_reducible refine (scrimref07_Same.calls k2 _ _ t228 _ _ l0 t231 _ ?side1 ?side2 ?side3 ?side4 A36.out).mono ?_); (case side1 => repeat (first | exact (Kd.R_reads' HO230.out).2.2 | (with_reducible refine Kd.C_alloc ?_ _) | (with_reducible refine Kd.C_drewN ?_ _) | (with_reducible refine Kd.C_drew ?_))); (case side2 => exact (Kd.R_reads' HO230.out).2.1); (case side3 => repeat (first | exact (Kd.C_below HR0.out HB.out) | (with_reducible refine Kd.C_alloc ?_ _) | (with_reducible refine Kd.C_drewN ?_ _) | (with_reducible refine Kd.C_drew ?_))); (case side4 => exact HC0.out); rintro e w' ⟨rfl, ⟨nd, rfl⟩⟩))
                    go_meet
                    case rel => exact ⟨_, (!t231), (by first | rfl | (simp; done) | (simp [*]; done)), H', ⟨by have := HJ4.out; have := HK2.out; first | omega | exact Nat.le_refl _⟩, ⟨by repeat (first | (with_reducible first | exact HB.out | apply below_alloc | apply pw_below_drewN | apply below_drew1) | exact HB.out)⟩⟩
                  · rw [if_neg c34] at H
                    have c34b0 : decide (0 < (l0.length : Int)) = false := decide_eq_false c34
                    have c34b1 : decide (0 < l0.length) = false := decide_eq_false (by omega)
                    clear c34
                    (first | rw [c34b0] | (simp only [i64_w, i32_w]; rw [c34b0]) | skip)
                    have H' := Aside0.mk H
                    clear H
                    go_wp2
                    go_meet
                    case rel => exact ⟨_, (false), (by first | rfl | (simp; done) | (simp [*]; done)), H', ⟨by have := HJ4.out; have := HK2.out; first | omega | exact Nat.le_refl _⟩, ⟨by repeat (first | (with_reducible first | exact HB.out | apply below_alloc | apply pw_below_drewN | apply below_drew1) | exact HB.out)⟩⟩
                case rest =>
                  clear HC33
                  try clear c1
                  try clear p1
                  try clear q1
                  try clear hx1
                  try clear c2
                  try clear p2
                  try clear q2
                  try clear hx2
                  try clear c3
                  try clear c4
                  try clear c5
                  try clear p6
                  try clear c7
                  try clear c7b0
                  try clear c7b1
                  try clear c8
                  try clear c8b0
                  try clear c9
                  try clear c10
                  try clear c10b0
                  try clear c11
                  try clear c11b0
                  try clear c12
                  try clear c12b0
                  try clear c14
                  try clear c14b0
                  try clear c14b1
                  try clear c15
                  try clear c16
                  try clear c16b0
                  try clear c17
                  try clear c17b0
                  try clear p18
                  try clear q18
                  try clear hx18
                  try clear c19
                  try clear c19b0
                  try clear c19b1
                  try clear c20
                  try clear c20b0
                  try clear c20b1
                  try clear c21
                  try clear c21b0
                  try clear c21b1
                  try clear c22
                  try clear c22b0
                  try clear c22b1
                  try clear p22
                  try clear q22
                  try clear hx22
                  try clear c23
                  try clear c23b0
                  try clear c23b1
                  try clear c24
                  try clear c24b0
                  try clear c24b1
                  try clear c25
                  try clear c25b0
                  try clear c25b1
                  try clear c26
                  try clear c26b0
                  try clear c26b1
                  try clear c26b2
                  try clear c27
                  try clear c27b0
                  try clear c27b1
                  try clear c27b2
                  try clear c28
                  try clear c28b0
                  try clear c28b1
                  try clear c28b2
                  try clear c29
                  try clear c29b0
                  try clear c30
                  try clear c30b0
                  try clear c30b1
                  try clear c30b2
                  try clear c31
                  try clear c31b0
                  try clear c31b1
                  try clear c31b2
                  try clear c32
                  try clear c32b0
                  try clear c32b1
                  try clear c32b2
                  try clear c34
                  try clear c34b0
                  try clear c34b1
                  try clear hx227_0
                  try clear p18
                  try clear p2
                  try clear p227
                  try clear q18
                  try clear q2
                  try clear q227
                  obtain ⟨kq, x89_32, rfl, HA, HJ32, HB⟩ := hcut
                  cases kq with
                  | zero => exact absurd HA.out (by simp [scrimlaw07_ScanWords.j4])
                  | succ kj32 =>
                    have H := HA.out
                    clear HA
                    simp only [scrimlaw07_ScanWords.j4] at H
                    by_cases c39 : x89_32 = true
                    · subst c39
                      have H1 : (some false) = some r := by rw [if_pos rfl] at H; exact H
                      clear H
                      have H := H1
                      clear H1
                      exact absurd ((Option.some.inj H).trans hrt) (by decide)
                    · replace c39 := Bool.eq_false_iff.mpr c39
                      subst c39
                      have H1 : ((scan_Words.f x5_2).bind fun t232 => ((scrimref07_Same.f kj32 t232 l0).bind fun t235 => (some t235))) = some r := by rw [if_neg (show ¬ (false = true) by decide)] at H; exact H
                      clear H
                      have H := H1
                      clear H1
                      replace H := Option.bind_eq_some_iff.mp H
                      obtain ⟨t232, A400, H⟩ := H
                      replace H : ((scrimref07_Same.f kj32 t232 l0).bind fun t235 => (some t235)) = some r := H
                      have A40 := Aside0.mk A400
                      clear A400
                      replace H := Option.bind_eq_some_iff.mp H
                      obtain ⟨t235, A410, H⟩ := H
                      replace H : (some t235) = some r := H
                      have A41 := Aside0.mk A410
                      clear A410
                      obtain rfl := Option.some.inj H; clear hrt; try clear H
                      go_wp2_with (first | ((with_reducible refine gate_callee (f := 17) rfl ?_); refine goesL_ (some 91) rfl rfl Tryd.func17 (by kernel_rfl) rfl #[.string x5_2] rfl (by (try simp only [List.map_toArray, List.map_cons, List.map_nil]); first | done | rfl | (simp only [List.length_drop, List.length_take]; rfl)) ?_; (with_reducible refine (scan_Words.calls x5_2 t232 _ A40.out).mono ?_); rintro e w42 ⟨v233, rfl, ho0, hb⟩; refine ⟨_, rfl, ?_⟩; have n0_ := Aside0.mk (Kd.R_lower ho0 (below_size (by repeat (first | (with_reducible first | exact HB.out | apply below_alloc | apply pw_below_drewN | apply below_drew1) | exact HB.out)))); have n1_ := Aside0.mk (below_step (by repeat (first | (with_reducible first | exact HB.out | apply below_alloc | apply pw_below_drewN | apply below_drew1) | exact HB.out)) hb); clear HB; have HO234 := n0_; have HB := n1_; clear n0_ n1_; (try clear hb); (try clear hb2); (try clear hk); (try clear hi); (try clear ho0); obtain ⟨Ao43, co43, eo43⟩ := Kd.R_slice HO234.out; subst eo43) | ((with_reducible refine gate_callee (f := 14) rfl ?_); refine goesL_ (some 93) rfl rfl Tryd.func14 (by kernel_rfl) rfl #[.slice Ao43 t232.length co43, .slice A0 l0.length c0] rfl (by (try simp only [List.map_toArray, List.map_cons, List.map_nil]); first | done | rfl | (simp only [List.length_drop, List.length_take]; rfl)) ?_; (with_reducible refine (scrimref07_Same.calls kj32 _ _ t232 _ _ l0 t235 _ ?side1 ?side2 ?side3 ?side4 A41.out).mono ?_); (case side1 => repeat (first | exact (Kd.R_reads' HO234.out).2.2 | (with_reducible refine Kd.C_alloc ?_ _) | (with_reducible refine Kd.C_drewN ?_ _) | (with_reducible refine Kd.C_drew ?_))); (case side2 => exact (Kd.R_reads' HO234.out).2.1); (case side3 => repeat (first | exact (Kd.C_below HR0.out HB.out) | (with_reducible refine Kd.C_alloc ?_ _) | (with_reducible refine Kd.C_drewN ?_ _) | (with_reducible refine Kd.C_drew ?_))); (case side4 => exact HC0.out); rintro e w' ⟨rfl, ⟨nd, rfl⟩⟩; refine ⟨_, rfl, ?_⟩))
                      go_ret
                      exact ⟨by first | rfl | (simp [errW_none, errW_some] <;> rfl) | (simp [*, errW_none, errW_some] <;> rfl), by repeat (first | (with_reducible first | exact HB.out | apply below_alloc | apply pw_below_drewN | apply below_drew1) | exact HB.out)⟩
  · replace c4 := Bool.eq_false_iff.mpr c4
    subst c4
    have H1 : (some false) = some r := by rw [if_neg (show ¬ (false = true) by decide)] at H; exact H
    clear H
    have H := H1
    clear H1
    exact absurd ((Option.some.inj H).trans hrt) (by decide)

end Go.Proofs.YtdifaomkaekglaaDoor.HS
