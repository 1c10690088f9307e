-- Written by a program of this session (wip/tools/hprint.py), which drives the kit's print; not print.sh's own output.
import Derived.Test.YtdifaomkaekglaaDoorHS0
import Derived.Test.YtdifaomkaekglaaDoorHS1
import Derived.Test.YtdifaomkaekglaaDoorHS2
namespace Go.Proofs.YtdifaomkaekglaaDoor.HS
open Go.RowKit Go.Proofs.YtdifaomkaekglaaDoorW.PrintWords Go.Proofs.YtdifaomkaekglaaDoorW.PrintLast Go.Proofs.YtdifaomkaekglaaDoorW.PrintMore
attribute [local go_sem] max2_int min2_int max_two min_two max_three min_three max_four min_four   -- for this text's walks alone
set_option linter.unusedVariables false
set_option linter.unusedSimpArgs false

attribute [local go_sem high] eqA29
/-! ### scrimlaw07_ScanBlocks: function 6 -/
mutual
def scrimlaw07_ScanBlocks.l0 : Nat → List (S29) → ByteArray → List (S29) → Int → Int → Option (Bool)
  | 0, _, _, _, _, _ => none
  | k + 1, x0, x3, x16, x17, x18 => if x18 < x17 then (if 0 ≤ x18 then (if x18 < (x16.length : Int) then (if (wrap64 ((((rd_T29 x16 x18).f0).size : Int) + (((rd_T29 x16 x18).f1).size : Int))) > 50 then (some true) else ((some (([(rd_T29 x16 x18).f0, (rd_T29 x16 x18).f1] : List ByteArray) : List ByteArray)).bind fun y239 => (scrimlaw07_ScanBlocks.l1 k x0 x3 x16 x17 x18 y239 (y239.length : Int) 0 ((rd_T29 x16 x18).f0) ((rd_T29 x16 x18).f1)))) else (none)) else (none)) else ((scan_Blocks.f k x3).bind fun t244 => (if (t244.length : Int) = (x0.length : Int) then (scrimlaw07_ScanBlocks.l3 k x0 t244 (x0.length : Int) 0) else (some false)))
def scrimlaw07_ScanBlocks.l1 : Nat → List (S29) → ByteArray → List (S29) → Int → Int → List ByteArray → Int → Int → ByteArray → ByteArray → Option (Bool)
  | 0, _, _, _, _, _, _, _, _, _, _ => none
  | k + 1, x0, x3, x16, x17, x18, x34, x35, x36, x239000, x239001 => if x36 < x35 then (if 0 ≤ x36 then (if x36 < (x34.length : Int) then (scrimlaw07_ScanBlocks.l2 k x0 x3 (rdOf ByteArray.empty x34 x36) 0 x16 x17 x18 x34 x35 x36 x239000 x239001) else (none)) else (none)) else (if 1 + x239000.size ≤ 9223372036854775807 then (if ((⟨#[32]⟩ : ByteArray) ++ x239000).size + 2 ≤ 9223372036854775807 then (if (((⟨#[32]⟩ : ByteArray) ++ x239000) ++ (⟨#[123, 32]⟩ : ByteArray)).size + x239001.size ≤ 9223372036854775807 then (if ((((⟨#[32]⟩ : ByteArray) ++ x239000) ++ (⟨#[123, 32]⟩ : ByteArray)) ++ x239001).size + 2 ≤ 9223372036854775807 then (if x3.size + (((((⟨#[32]⟩ : ByteArray) ++ x239000) ++ (⟨#[123, 32]⟩ : ByteArray)) ++ x239001) ++ (⟨#[10, 125]⟩ : ByteArray)).size ≤ 9223372036854775807 then (scrimlaw07_ScanBlocks.l0 k x0 (x3 ++ (((((⟨#[32]⟩ : ByteArray) ++ x239000) ++ (⟨#[123, 32]⟩ : ByteArray)) ++ x239001) ++ (⟨#[10, 125]⟩ : ByteArray))) x16 x17 (wrap64 (x18 + 1))) else (none)) else (none)) else (none)) else (none)) else (none))
def scrimlaw07_ScanBlocks.l2 : Nat → List (S29) → ByteArray → ByteArray → Int → List (S29) → Int → Int → List ByteArray → Int → Int → ByteArray → ByteArray → Option (Bool)
  | 0, _, _, _, _, _, _, _, _, _, _, _, _ => none
  | k + 1, x0, x3, x7, x8, x16, x17, x18, x34, x35, x36, x239000, x239001 => if x8 < (x7.size : Int) then (if 0 ≤ x8 then (if (bt x7 x8) = 123 then (some true) else (if (bt x7 x8) = 125 then (some true) else (scrimlaw07_ScanBlocks.l2 k x0 x3 x7 (wrap64 (x8 + 1)) x16 x17 x18 x34 x35 x36 x239000 x239001))) else (none)) else ((scan_Trim.f x7).bind fun t243 => (if t243.toList = x7.toList then (scrimlaw07_ScanBlocks.l1 k x0 x3 x16 x17 x18 x34 x35 (wrap64 (x36 + 1)) x239000 x239001) else (some true)))
def scrimlaw07_ScanBlocks.l3 : Nat → List (S29) → List (S29) → Int → Int → Option (Bool)
  | 0, _, _, _, _ => none
  | k + 1, x0, x9, x80, x81 => if x81 < x80 then (if 0 ≤ x81 then (if x81 < (x9.length : Int) then (if x81 < (x0.length : Int) then (if (!((((rd_T29 x9 x81).f0).toList) == (((rd_T29 x0 x81).f0).toList)) || (!((((rd_T29 x9 x81).f1).toList) == (((rd_T29 x0 x81).f1).toList)))) = true then (some false) else (scrimlaw07_ScanBlocks.l3 k x0 x9 x80 (wrap64 (x81 + 1)))) else (none)) else (none)) else (none)) else (some true)
end
def scrimlaw07_ScanBlocks.f (k : Nat) (l0 : List (S29)) : Option (Bool) := (scrimlaw07_awake.f k).bind fun t236 => (if t236 = true then (if (l0.length : Int) > 20 then (some true) else (scrimlaw07_ScanBlocks.l0 k l0 (⟨#[]⟩ : ByteArray) l0 (l0.length : Int) 0)) else (some false))
theorem scrimlaw07_ScanBlocks.mono_l : ∀ k, (∀ y0 y1 y2 y3 y4, LeO (scrimlaw07_ScanBlocks.l0 k y0 y1 y2 y3 y4) (scrimlaw07_ScanBlocks.l0 (k + 1) y0 y1 y2 y3 y4)) ∧ (∀ y0 y1 y2 y3 y4 y5 y6 y7 y8 y9, LeO (scrimlaw07_ScanBlocks.l1 k y0 y1 y2 y3 y4 y5 y6 y7 y8 y9) (scrimlaw07_ScanBlocks.l1 (k + 1) y0 y1 y2 y3 y4 y5 y6 y7 y8 y9)) ∧ (∀ y0 y1 y2 y3 y4 y5 y6 y7 y8 y9 y10 y11, LeO (scrimlaw07_ScanBlocks.l2 k y0 y1 y2 y3 y4 y5 y6 y7 y8 y9 y10 y11) (scrimlaw07_ScanBlocks.l2 (k + 1) y0 y1 y2 y3 y4 y5 y6 y7 y8 y9 y10 y11)) ∧ (∀ y0 y1 y2 y3, LeO (scrimlaw07_ScanBlocks.l3 k y0 y1 y2 y3) (scrimlaw07_ScanBlocks.l3 (k + 1) y0 y1 y2 y3))
  | 0 => ⟨fun _ _ _ _ _ r h => by simp [scrimlaw07_ScanBlocks.l0] at h, fun _ _ _ _ _ _ _ _ _ _ r h => by simp [scrimlaw07_ScanBlocks.l1] at h, fun _ _ _ _ _ _ _ _ _ _ _ _ r h => by simp [scrimlaw07_ScanBlocks.l2] at h, fun _ _ _ _ r h => by simp [scrimlaw07_ScanBlocks.l3] at h⟩
  | k + 1 => by
    obtain ⟨ih0, ih1, ih2, ih3⟩ := scrimlaw07_ScanBlocks.mono_l k
    refine ⟨?_, ?_, ?_, ?_⟩
    · intro y0 y1 y2 y3 y4
      unfold scrimlaw07_ScanBlocks.l0
      repeat' first
      | (with_reducible exact ih0 _ _ _ _ _)
      | (with_reducible exact ih1 _ _ _ _ _ _ _ _ _ _)
      | (with_reducible exact ih2 _ _ _ _ _ _ _ _ _ _ _ _)
      | (with_reducible exact ih3 _ _ _ _)
      | (with_reducible exact scan_Blocks.mono _ _)
      | (with_reducible exact scrimlaw07_awake.mono _)
      | (with_reducible exact LeO.refl _)
      | (with_reducible exact LeO.none _)
      | (with_reducible refine LeO.ite ?_ ?_)
      | (with_reducible refine LeO.bind ?_ (fun _ => ?_))
      | exact ih0 _ _ _ _ _
      | exact ih1 _ _ _ _ _ _ _ _ _ _
      | exact ih2 _ _ _ _ _ _ _ _ _ _ _ _
      | exact ih3 _ _ _ _
      | exact scan_Blocks.mono _ _
      | exact scrimlaw07_awake.mono _
      | exact LeO.none _
      | refine LeO.ite ?_ ?_
      | refine LeO.bind ?_ (fun _ => ?_)
    · intro y0 y1 y2 y3 y4 y5 y6 y7 y8 y9
      unfold scrimlaw07_ScanBlocks.l1
      repeat' first
      | (with_reducible exact ih0 _ _ _ _ _)
      | (with_reducible exact ih1 _ _ _ _ _ _ _ _ _ _)
      | (with_reducible exact ih2 _ _ _ _ _ _ _ _ _ _ _ _)
      | (with_reducible exact ih3 _ _ _ _)
      | (with_reducible exact scan_Blocks.mono _ _)
      | (with_reducible exact scrimlaw07_awake.mono _)
      | (with_reducible exact LeO.refl _)
      | (with_reducible exact LeO.none _)
      | (with_reducible refine LeO.ite ?_ ?_)
      | (with_reducible refine LeO.bind ?_ (fun _ => ?_))
      | exact ih0 _ _ _ _ _
      | exact ih1 _ _ _ _ _ _ _ _ _ _
      | exact ih2 _ _ _ _ _ _ _ _ _ _ _ _
      | exact ih3 _ _ _ _
      | exact scan_Blocks.mono _ _
      | exact scrimlaw07_awake.mono _
      | exact LeO.none _
      | refine LeO.ite ?_ ?_
      | refine LeO.bind ?_ (fun _ => ?_)
    · intro y0 y1 y2 y3 y4 y5 y6 y7 y8 y9 y10 y11
      unfold scrimlaw07_ScanBlocks.l2
      repeat' first
      | (with_reducible exact ih0 _ _ _ _ _)
      | (with_reducible exact ih1 _ _ _ _ _ _ _ _ _ _)
      | (with_reducible exact ih2 _ _ _ _ _ _ _ _ _ _ _ _)
      | (with_reducible exact ih3 _ _ _ _)
      | (with_reducible exact scan_Blocks.mono _ _)
      | (with_reducible exact scrimlaw07_awake.mono _)
      | (with_reducible exact LeO.refl _)
      | (with_reducible exact LeO.none _)
      | (with_reducible refine LeO.ite ?_ ?_)
      | (with_reducible refine LeO.bind ?_ (fun _ => ?_))
      | exact ih0 _ _ _ _ _
      | exact ih1 _ _ _ _ _ _ _ _ _ _
      | exact ih2 _ _ _ _ _ _ _ _ _ _ _ _
      | exact ih3 _ _ _ _
      | exact scan_Blocks.mono _ _
      | exact scrimlaw07_awake.mono _
      | exact LeO.none _
      | refine LeO.ite ?_ ?_
      | refine LeO.bind ?_ (fun _ => ?_)
    · intro y0 y1 y2 y3
      unfold scrimlaw07_ScanBlocks.l3
      repeat' first
      | (with_reducible exact ih0 _ _ _ _ _)
      | (with_reducible exact ih1 _ _ _ _ _ _ _ _ _ _)
      | (with_reducible exact ih2 _ _ _ _ _ _ _ _ _ _ _ _)
      | (with_reducible exact ih3 _ _ _ _)
      | (with_reducible exact scan_Blocks.mono _ _)
      | (with_reducible exact scrimlaw07_awake.mono _)
      | (with_reducible exact LeO.refl _)
      | (with_reducible exact LeO.none _)
      | (with_reducible refine LeO.ite ?_ ?_)
      | (with_reducible refine LeO.bind ?_ (fun _ => ?_))
      | exact ih0 _ _ _ _ _
      | exact ih1 _ _ _ _ _ _ _ _ _ _
      | exact ih2 _ _ _ _ _ _ _ _ _ _ _ _
      | exact ih3 _ _ _ _
      | exact scan_Blocks.mono _ _
      | exact scrimlaw07_awake.mono _
      | exact LeO.none _
      | refine LeO.ite ?_ ?_
      | refine LeO.bind ?_ (fun _ => ?_)
theorem scrimlaw07_ScanBlocks.mono : ∀ a0 k, LeO (scrimlaw07_ScanBlocks.f k a0) (scrimlaw07_ScanBlocks.f (k + 1) a0) := by
  intro a0 k
  obtain ⟨ih0, ih1, ih2, ih3⟩ := scrimlaw07_ScanBlocks.mono_l k
  unfold scrimlaw07_ScanBlocks.f
  repeat' first
      | (with_reducible exact ih0 _ _ _ _ _)
      | (with_reducible exact ih1 _ _ _ _ _ _ _ _ _ _)
      | (with_reducible exact ih2 _ _ _ _ _ _ _ _ _ _ _ _)
      | (with_reducible exact ih3 _ _ _ _)
      | (with_reducible exact scan_Blocks.mono _ _)
      | (with_reducible exact scrimlaw07_awake.mono _)
      | (with_reducible exact LeO.refl _)
      | (with_reducible exact LeO.none _)
      | (with_reducible refine LeO.ite ?_ ?_)
      | (with_reducible refine LeO.bind ?_ (fun _ => ?_))
      | exact ih0 _ _ _ _ _
      | exact ih1 _ _ _ _ _ _ _ _ _ _
      | exact ih2 _ _ _ _ _ _ _ _ _ _ _ _
      | exact ih3 _ _ _ _
      | exact scan_Blocks.mono _ _
      | exact scrimlaw07_awake.mono _
      | exact LeO.none _
      | refine LeO.ite ?_ ?_
      | refine LeO.bind ?_ (fun _ => ?_)
set_option maxHeartbeats 8000000 in
set_option maxRecDepth 100000 in
theorem scrimlaw07_ScanBlocks.calls (k : Nat) (A0 : Option Addr) (c0 : Nat) (l0 : List (S29)) (r : Bool) (hrt : r = true) (w : World) (hr0 : Kd.C k29 w A0 l0.length l0) (hc0 : l0.length ≤ c0) (h : scrimlaw07_ScanBlocks.f k l0 = some r) (hmx : Go.Proofs.Scn.Mx w) :
    Calls Tryd.prog 6 #[.slice A0 l0.length c0] w fun e w' => e = .returned (.bool r) ∧ Below w.heap.size w w' := by
  have HMX := Aside0.mk hmx
  clear hmx
  have hu29 := Tryd.underlying29
  have HR0 := Aside0.mk hr0
  have HC0 := Aside0.mk hc0
  clear hr0 hc0
  have HB := Aside0.mk (Below.refl w.heap.size w)
  have H : ((scrimlaw07_awake.f k).bind fun t236 => (if t236 = true then (if (l0.length : Int) > 20 then (some true) else (scrimlaw07_ScanBlocks.l0 k l0 (⟨#[]⟩ : ByteArray) l0 (l0.length : Int) 0)) else (some false))) = some r := h
  clear h
  replace H := Option.bind_eq_some_iff.mp H
  obtain ⟨t236, A20, H⟩ := H
  replace H : (if t236 = true then (if (l0.length : Int) > 20 then (some true) else (scrimlaw07_ScanBlocks.l0 k l0 (⟨#[]⟩ : ByteArray) l0 (l0.length : Int) 0)) else (some false)) = some r := H
  have A2 := Aside0.mk A20
  clear A20
  by_cases c3 : t236 = true
  · subst c3
    have H1 : (if (l0.length : Int) > 20 then (some true) else (scrimlaw07_ScanBlocks.l0 k l0 (⟨#[]⟩ : ByteArray) l0 (l0.length : Int) 0)) = some r := by rw [if_pos rfl] at H; exact H
    clear H
    have H := H1
    clear H1
    by_cases c4 : (l0.length : Int) > 20
    · rw [if_pos c4] at H
      have c4b0 : decide (20 < (l0.length : Int)) = true := decide_eq_true c4
      have c4b1 : decide (20 < l0.length) = true := decide_eq_true (by omega)
      clear c4
      obtain rfl := Option.some.inj H; clear hrt; try clear H
      go_enter Tryd.func6, Tryd.ntmps6
      go_wp2_with (first | (go_at_call 7; (with_reducible refine (scrimlaw07_awake.calls k  true rfl _ A2.out (HMX.out.below (by repeat (first | (with_reducible first | exact HB.out | apply below_alloc | apply pw_below_drewN | apply below_drew1) | exact HB.out)))).mono ?_); rintro e w5 ⟨rfl, hb⟩; have n0_ := Aside0.mk (below_step (by repeat (first | (with_reducible first | exact HB.out | apply below_alloc | apply pw_below_drewN | apply below_drew1) | exact HB.out)) hb); clear HB; have HB := n0_; clear n0_; (try clear hb); (try clear hb2); (try clear hk); (try clear hi)))
      repeat (go_quiet (first | (go_at_call 7; (with_reducible refine (scrimlaw07_awake.calls k  true rfl _ A2.out (HMX.out.below (by repeat (first | (with_reducible first | exact HB.out | apply below_alloc | apply pw_below_drewN | apply below_drew1) | exact HB.out)))).mono ?_); rintro e w5 ⟨rfl, hb⟩; have n0_ := Aside0.mk (below_step (by repeat (first | (with_reducible first | exact HB.out | apply below_alloc | apply pw_below_drewN | apply below_drew1) | exact HB.out)) hb); clear HB; have HB := n0_; clear n0_; (try clear hb); (try clear hb2); (try clear hk); (try clear hi))); try go_wp2_with (first | (go_at_call 7; (with_reducible refine (scrimlaw07_awake.calls k  true rfl _ A2.out (HMX.out.below (by repeat (first | (with_reducible first | exact HB.out | apply below_alloc | apply pw_below_drewN | apply below_drew1) | exact HB.out)))).mono ?_); rintro e w5 ⟨rfl, hb⟩; have n0_ := Aside0.mk (below_step (by repeat (first | (with_reducible first | exact HB.out | apply below_alloc | apply pw_below_drewN | apply below_drew1) | exact HB.out)) hb); clear HB; have HB := n0_; clear n0_; (try clear hb); (try clear hb2); (try clear hk); (try clear hi))))
      go_ret
      exact ⟨by first | rfl | (simp [errW_none, errW_some] <;> rfl) | (simp [*, errW_none, errW_some] <;> rfl), by repeat (first | (with_reducible first | exact HB.out | apply below_alloc | apply pw_below_drewN | apply below_drew1) | exact HB.out)⟩
    · rw [if_neg c4] at H
      have c4b0 : decide (20 < (l0.length : Int)) = false := decide_eq_false c4
      have c4b1 : decide (20 < l0.length) = false := decide_eq_false (by omega)
      clear c4
      have H' := Aside0.mk H
      clear H
      go_enter Tryd.func6, Tryd.ntmps6
      go_wp2_with (first | (go_at_call 7; (with_reducible refine (scrimlaw07_awake.calls k  true rfl _ A2.out (HMX.out.below (by repeat (first | (with_reducible first | exact HB.out | apply below_alloc | apply pw_below_drewN | apply below_drew1) | exact HB.out)))).mono ?_); rintro e w6 ⟨rfl, hb⟩; have n0_ := Aside0.mk (below_step (by repeat (first | (with_reducible first | exact HB.out | apply below_alloc | apply pw_below_drewN | apply below_drew1) | exact HB.out)) hb); clear HB; have HB := n0_; clear n0_; (try clear hb); (try clear hb2); (try clear hk); (try clear hi)))
      repeat (go_quiet (first | (go_at_call 7; (with_reducible refine (scrimlaw07_awake.calls k  true rfl _ A2.out (HMX.out.below (by repeat (first | (with_reducible first | exact HB.out | apply below_alloc | apply pw_below_drewN | apply below_drew1) | exact HB.out)))).mono ?_); rintro e w6 ⟨rfl, hb⟩; have n0_ := Aside0.mk (below_step (by repeat (first | (with_reducible first | exact HB.out | apply below_alloc | apply pw_below_drewN | apply below_drew1) | exact HB.out)) hb); clear HB; have HB := n0_; clear n0_; (try clear hb); (try clear hb2); (try clear hk); (try clear hi))); try go_wp2_with (first | (go_at_call 7; (with_reducible refine (scrimlaw07_awake.calls k  true rfl _ A2.out (HMX.out.below (by repeat (first | (with_reducible first | exact HB.out | apply below_alloc | apply pw_below_drewN | apply below_drew1) | exact HB.out)))).mono ?_); rintro e w6 ⟨rfl, hb⟩; have n0_ := Aside0.mk (below_step (by repeat (first | (with_reducible first | exact HB.out | apply below_alloc | apply pw_below_drewN | apply below_drew1) | exact HB.out)) hb); clear HB; have HB := n0_; clear n0_; (try clear hb); (try clear hb2); (try clear hk); (try clear hi))))
      go_loopg [3, 18] k (fun kq v3 v18 w' => ∃ (x3_1 : ByteArray) (x18_1 : Int), v3 = .string x3_1 ∧ v18 = .int .i64 x18_1 ∧ Aside0 (scrimlaw07_ScanBlocks.l0 kq l0 x3_1 l0 (l0.length : Int) x18_1 = some r) ∧ Aside0 (kq ≤ k) ∧ Aside0 (Below w.heap.size w w'))
      case atStart => exact ⟨((⟨#[]⟩ : ByteArray)), (0), (by first | rfl | (simp; done) | (simp [*]; done)), (by first | rfl | (simp; done) | (simp [*]; done)), H', ⟨Nat.le_refl _⟩, ⟨by repeat (first | (with_reducible first | exact HB.out | apply below_alloc | apply pw_below_drewN | apply below_drew1) | exact HB.out)⟩⟩
      case round =>
        clear H'
        try clear p2
        try clear c3
        try clear c4
        try clear c4b0
        try clear c4b1
        try clear c6
        obtain ⟨x3_1, x18_1, rfl, rfl, HA, HK1, HB⟩ := hrel
        cases gk with
        | zero => exact absurd HA.out (by simp [scrimlaw07_ScanBlocks.l0])
        | succ k1 =>
          have H := HA.out
          clear HA
          simp only [scrimlaw07_ScanBlocks.l0] at H
          by_cases c7 : x18_1 < (l0.length : Int)
          · rw [if_pos c7] at H
            have c7b0 : decide (x18_1 < (l0.length : Int)) = true := decide_eq_true c7
            clear c7
            by_cases c8 : 0 ≤ x18_1
            · rw [if_pos c8] at H
              have c8b0 : decide (0 ≤ x18_1) = true := decide_eq_true c8
              clear c8
              by_cases c9 : x18_1 < (l0.length : Int)
              · rw [if_pos c9] at H
                have c9b0 : decide (x18_1 < (l0.length : Int)) = true := decide_eq_true c9
                clear c9
                by_cases c10 : (wrap64 ((((rd_T29 l0 x18_1).f0).size : Int) + (((rd_T29 l0 x18_1).f1).size : Int))) > 50
                · rw [if_pos c10] at H
                  have c10b0 : decide (50 < (wrap64 ((((rd_T29 l0 x18_1).f0).size : Int) + (((rd_T29 l0 x18_1).f1).size : Int)))) = true := decide_eq_true c10
                  clear c10
                  obtain rfl := Option.some.inj H; clear hrt; try clear H
                  have p237 : 0 ≤ (x18_1 : Int) := of_decide_eq_true (by first | (with_reducible assumption) | assumption)
                  have q237 : x18_1 < (l0.length : Int) := of_decide_eq_true (by first | (with_reducible assumption) | assumption)
                  obtain ⟨ad237, e237, hx237_0, hx237_1⟩ := at_T29 HR0.out x18_1 p237 q237
                  cases e237
                  replace hx237_0 := (HB.out.cell (World.block_lt_of_cell? w _ hx237_0)).trans hx237_0
                  replace hx237_1 := (HB.out.cell (World.block_lt_of_cell? w _ hx237_1)).trans hx237_1
                  replace p237 := eq_true p237
                  replace q237 := eq_true q237
                  go_wp2_with (first | ((with_reducible refine gate_dst (N := 5) rfl ?_); refine box_event ?hg (N := 5) ?hd (cs := #[.string (⟨#[]⟩ : ByteArray), .string (⟨#[]⟩ : ByteArray)]) (t := 29) ?hr ?_; (case hd => rfl); (case hg => rfl); (case hr => first | (go_simp; done) | (go_simp; rfl)); intro gb238 hg w11 hbox hb; have n0_ := Aside0.mk (below_step (by repeat (first | (with_reducible first | exact HB.out | apply below_alloc | apply pw_below_drewN | apply below_drew1) | exact HB.out)) hb); have n1_ := Aside0.mk (hbox); have n2_ := Aside0.mk ((by rw [hg]; exact (below_size (by repeat (first | (with_reducible first | exact HB.out | apply below_alloc | apply pw_below_drewN | apply below_drew1) | exact HB.out))) : w.heap.size ≤ gb238)); have n3_ := Aside0.mk ((by rw [hg]; exact (below_size (by repeat (first | (with_reducible first | exact HB.out | apply below_alloc | apply pw_below_drewN | apply below_drew1) | exact HB.out))) : w.heap.size ≤ gb238)); clear HB; have HB := n0_; have BK238 := n1_; have GW238 := n2_; have GE238 := n3_; clear n0_ n1_ n2_ n3_; clear hb hbox hg; have hcz12_0 : w11.cell? ⟨gb238, 0, none⟩ = some (.string (⟨#[]⟩ : ByteArray)) := (blk_cell BK238.out 0).trans rfl; have hcz12_1 : w11.cell? ⟨gb238, 1, none⟩ = some (.string (⟨#[]⟩ : ByteArray)) := (blk_cell BK238.out 1).trans rfl; have hfz12_0 := blk_frozen BK238.out 0; have hfz12_1 := blk_frozen BK238.out 1))
                  repeat (go_quiet (first | ((with_reducible refine gate_dst (N := 5) rfl ?_); refine box_event ?hg (N := 5) ?hd (cs := #[.string (⟨#[]⟩ : ByteArray), .string (⟨#[]⟩ : ByteArray)]) (t := 29) ?hr ?_; (case hd => rfl); (case hg => rfl); (case hr => first | (go_simp; done) | (go_simp; rfl)); intro gb238 hg w11 hbox hb; have n0_ := Aside0.mk (below_step (by repeat (first | (with_reducible first | exact HB.out | apply below_alloc | apply pw_below_drewN | apply below_drew1) | exact HB.out)) hb); have n1_ := Aside0.mk (hbox); have n2_ := Aside0.mk ((by rw [hg]; exact (below_size (by repeat (first | (with_reducible first | exact HB.out | apply below_alloc | apply pw_below_drewN | apply below_drew1) | exact HB.out))) : w.heap.size ≤ gb238)); have n3_ := Aside0.mk ((by rw [hg]; exact (below_size (by repeat (first | (with_reducible first | exact HB.out | apply below_alloc | apply pw_below_drewN | apply below_drew1) | exact HB.out))) : w.heap.size ≤ gb238)); clear HB; have HB := n0_; have BK238 := n1_; have GW238 := n2_; have GE238 := n3_; clear n0_ n1_ n2_ n3_; clear hb hbox hg; have hcz12_0 : w11.cell? ⟨gb238, 0, none⟩ = some (.string (⟨#[]⟩ : ByteArray)) := (blk_cell BK238.out 0).trans rfl; have hcz12_1 : w11.cell? ⟨gb238, 1, none⟩ = some (.string (⟨#[]⟩ : ByteArray)) := (blk_cell BK238.out 1).trans rfl; have hfz12_0 := blk_frozen BK238.out 0; have hfz12_1 := blk_frozen BK238.out 1)); try go_wp2_with (first | ((with_reducible refine gate_dst (N := 5) rfl ?_); refine box_event ?hg (N := 5) ?hd (cs := #[.string (⟨#[]⟩ : ByteArray), .string (⟨#[]⟩ : ByteArray)]) (t := 29) ?hr ?_; (case hd => rfl); (case hg => rfl); (case hr => first | (go_simp; done) | (go_simp; rfl)); intro gb238 hg w11 hbox hb; have n0_ := Aside0.mk (below_step (by repeat (first | (with_reducible first | exact HB.out | apply below_alloc | apply pw_below_drewN | apply below_drew1) | exact HB.out)) hb); have n1_ := Aside0.mk (hbox); have n2_ := Aside0.mk ((by rw [hg]; exact (below_size (by repeat (first | (with_reducible first | exact HB.out | apply below_alloc | apply pw_below_drewN | apply below_drew1) | exact HB.out))) : w.heap.size ≤ gb238)); have n3_ := Aside0.mk ((by rw [hg]; exact (below_size (by repeat (first | (with_reducible first | exact HB.out | apply below_alloc | apply pw_below_drewN | apply below_drew1) | exact HB.out))) : w.heap.size ≤ gb238)); clear HB; have HB := n0_; have BK238 := n1_; have GW238 := n2_; have GE238 := n3_; clear n0_ n1_ n2_ n3_; clear hb hbox hg; have hcz12_0 : w11.cell? ⟨gb238, 0, none⟩ = some (.string (⟨#[]⟩ : ByteArray)) := (blk_cell BK238.out 0).trans rfl; have hcz12_1 : w11.cell? ⟨gb238, 1, none⟩ = some (.string (⟨#[]⟩ : ByteArray)) := (blk_cell BK238.out 1).trans rfl; have hfz12_0 := blk_frozen BK238.out 0; have hfz12_1 := blk_frozen BK238.out 1)))
                  go_ret
                  exact ⟨by first | rfl | (simp [errW_none, errW_some] <;> rfl) | (simp [*, errW_none, errW_some] <;> rfl), by repeat (first | (with_reducible first | exact HB.out | apply below_alloc | apply pw_below_drewN | apply below_drew1 | refine below_set ?_ GE238.out) | exact HB.out)⟩
                · rw [if_neg c10] at H
                  have c10b0 : decide (50 < (wrap64 ((((rd_T29 l0 x18_1).f0).size : Int) + (((rd_T29 l0 x18_1).f1).size : Int)))) = false := decide_eq_false c10
                  clear c10
                  obtain ⟨y239, hy239⟩ : ∃ y_ : List ByteArray, y_ = (([(rd_T29 l0 x18_1).f0, (rd_T29 l0 x18_1).f1] : List ByteArray)) := ⟨_, rfl⟩
                  replace H : (scrimlaw07_ScanBlocks.l1 k1 l0 x3_1 l0 (l0.length : Int) x18_1 y239 (y239.length : Int) 0 ((rd_T29 l0 x18_1).f0) ((rd_T29 l0 x18_1).f1)) = some r := by first | (rw [hy239]; with_reducible exact H) | (have H2_ := (Option.bind_some _ _).symm.trans H; rw [hy239]; with_reducible exact H2_) | (have H2_ := (Option.bind_some _ _).symm.trans H; with_reducible exact H2_) | with_reducible exact H | (rw [hy239]; exact H) | exact H
                  have Ny239 := Aside0.mk hy239
                  clear hy239
                  have H' := Aside0.mk H
                  clear H
                  have p237 : 0 ≤ (x18_1 : Int) := of_decide_eq_true (by first | (with_reducible assumption) | assumption)
                  have q237 : x18_1 < (l0.length : Int) := of_decide_eq_true (by first | (with_reducible assumption) | assumption)
                  obtain ⟨ad237, e237, hx237_0, hx237_1⟩ := at_T29 HR0.out x18_1 p237 q237
                  cases e237
                  replace hx237_0 := (HB.out.cell (World.block_lt_of_cell? w _ hx237_0)).trans hx237_0
                  replace hx237_1 := (HB.out.cell (World.block_lt_of_cell? w _ hx237_1)).trans hx237_1
                  replace p237 := eq_true p237
                  replace q237 := eq_true q237
                  go_wp2_with (first | ((with_reducible refine gate_dst (N := 5) rfl ?_); refine box_event ?hg (N := 5) ?hd (cs := #[.string (⟨#[]⟩ : ByteArray), .string (⟨#[]⟩ : ByteArray)]) (t := 29) ?hr ?_; (case hd => rfl); (case hg => rfl); (case hr => first | (go_simp; done) | (go_simp; rfl)); intro gb238 hg w13 hbox hb; have n0_ := Aside0.mk (below_step (by repeat (first | (with_reducible first | exact HB.out | apply below_alloc | apply pw_below_drewN | apply below_drew1) | exact HB.out)) hb); have n1_ := Aside0.mk (hbox); have n2_ := Aside0.mk ((by rw [hg]; exact (below_size (by repeat (first | (with_reducible first | exact HB.out | apply below_alloc | apply pw_below_drewN | apply below_drew1) | exact HB.out))) : w.heap.size ≤ gb238)); have n3_ := Aside0.mk ((by rw [hg]; exact (below_size (by repeat (first | (with_reducible first | exact HB.out | apply below_alloc | apply pw_below_drewN | apply below_drew1) | exact HB.out))) : w.heap.size ≤ gb238)); clear HB; have HB := n0_; have BK238 := n1_; have GW238 := n2_; have GE238 := n3_; clear n0_ n1_ n2_ n3_; clear hb hbox hg; have hcz14_0 : w13.cell? ⟨gb238, 0, none⟩ = some (.string (⟨#[]⟩ : ByteArray)) := (blk_cell BK238.out 0).trans rfl; have hcz14_1 : w13.cell? ⟨gb238, 1, none⟩ = some (.string (⟨#[]⟩ : ByteArray)) := (blk_cell BK238.out 1).trans rfl; have hfz14_0 := blk_frozen BK238.out 0; have hfz14_1 := blk_frozen BK238.out 1) | ((with_reducible refine gate_dst (N := 34) rfl ?_); refine Kd.R_lit Kd.string _ 9 ?hg (N := 34) ?hd (xs := ([(rd_T29 l0 x18_1).f0, (rd_T29 l0 x18_1).f1] : List ByteArray)) (inner := [.string ((rd_T29 l0 x18_1).f0), .string ((rd_T29 l0 x18_1).f1)]) (ok := fun _ => True) (okp := fun _ => True) ?hr ?hp (fun _ hk => hk) trivial (Below.refl _ _) (Nat.le_refl _) (by simp) ?_; (case hd => rfl); (case hg => rfl); (case hr => first | (go_simp; done) | (go_simp; rfl)); (case hp => exact (Reps.one (show Kd.M Kd.string _ _ _ ((rd_T29 l0 x18_1).f0) [.string ((rd_T29 l0 x18_1).f0)] from rfl) (Reps.one (show Kd.M Kd.string _ _ _ ((rd_T29 l0 x18_1).f1) [.string ((rd_T29 l0 x18_1).f1)] from rfl) (Reps.none _ _)))); intro v240 w15 ho16 hb hg_ hnew_; clear hg_ hnew_; (first | rw [← Ny239.out] at ho16 | (simp only [Int.reduceToNat] at ho16; rw [← Ny239.out] at ho16)); have n0_ := Aside0.mk (Kd.R_lower ho16 (below_size (by repeat (first | (with_reducible first | exact HB.out | apply below_alloc | apply pw_below_drewN | apply below_drew1 | refine below_set ?_ GE238.out) | exact HB.out)))); have n1_ := Aside0.mk (blk_below (g := gb238) (o := .cells #[.string ((rd_T29 l0 x18_1).f0), .string ((rd_T29 l0 x18_1).f1)] 29 (0, 0)) (by (with_reducible repeat (first | refine blk_drewN ?_ _ | refine blk_drew ?_ | refine blk_alloc ?_ _)); refine blk_put (cs := #[.string ((rd_T29 l0 x18_1).f0), .string (⟨#[]⟩ : ByteArray)]) ?_ 1 _ rfl; (with_reducible repeat (first | refine blk_drewN ?_ _ | refine blk_drew ?_ | refine blk_alloc ?_ _)); refine blk_put (cs := #[.string (⟨#[]⟩ : ByteArray), .string (⟨#[]⟩ : ByteArray)]) ?_ 0 _ rfl; (with_reducible repeat (first | refine blk_drewN ?_ _ | refine blk_drew ?_ | refine blk_alloc ?_ _)); exact BK238.out) hb); have n2_ := Aside0.mk (below_step (by repeat (first | (with_reducible first | exact HB.out | apply below_alloc | apply pw_below_drewN | apply below_drew1 | refine below_set ?_ GE238.out) | exact HB.out)) hb); clear BK238; clear HB; have HO241 := n0_; have BK238 := n1_; have HB := n2_; clear n0_ n1_ n2_; clear hb ho16; obtain ⟨Ao17, co17, eo17⟩ := Kd.R_slice HO241.out; subst eo17))
                  repeat (go_quiet (first | ((with_reducible refine gate_dst (N := 5) rfl ?_); refine box_event ?hg (N := 5) ?hd (cs := #[.string (⟨#[]⟩ : ByteArray), .string (⟨#[]⟩ : ByteArray)]) (t := 29) ?hr ?_; (case hd => rfl); (case hg => rfl); (case hr => first | (go_simp; done) | (go_simp; rfl)); intro gb238 hg w13 hbox hb; have n0_ := Aside0.mk (below_step (by repeat (first | (with_reducible first | exact HB.out | apply below_alloc | apply pw_below_drewN | apply below_drew1) | exact HB.out)) hb); have n1_ := Aside0.mk (hbox); have n2_ := Aside0.mk ((by rw [hg]; exact (below_size (by repeat (first | (with_reducible first | exact HB.out | apply below_alloc | apply pw_below_drewN | apply below_drew1) | exact HB.out))) : w.heap.size ≤ gb238)); have n3_ := Aside0.mk ((by rw [hg]; exact (below_size (by repeat (first | (with_reducible first | exact HB.out | apply below_alloc | apply pw_below_drewN | apply below_drew1) | exact HB.out))) : w.heap.size ≤ gb238)); clear HB; have HB := n0_; have BK238 := n1_; have GW238 := n2_; have GE238 := n3_; clear n0_ n1_ n2_ n3_; clear hb hbox hg; have hcz14_0 : w13.cell? ⟨gb238, 0, none⟩ = some (.string (⟨#[]⟩ : ByteArray)) := (blk_cell BK238.out 0).trans rfl; have hcz14_1 : w13.cell? ⟨gb238, 1, none⟩ = some (.string (⟨#[]⟩ : ByteArray)) := (blk_cell BK238.out 1).trans rfl; have hfz14_0 := blk_frozen BK238.out 0; have hfz14_1 := blk_frozen BK238.out 1) | ((with_reducible refine gate_dst (N := 34) rfl ?_); refine Kd.R_lit Kd.string _ 9 ?hg (N := 34) ?hd (xs := ([(rd_T29 l0 x18_1).f0, (rd_T29 l0 x18_1).f1] : List ByteArray)) (inner := [.string ((rd_T29 l0 x18_1).f0), .string ((rd_T29 l0 x18_1).f1)]) (ok := fun _ => True) (okp := fun _ => True) ?hr ?hp (fun _ hk => hk) trivial (Below.refl _ _) (Nat.le_refl _) (by simp) ?_; (case hd => rfl); (case hg => rfl); (case hr => first | (go_simp; done) | (go_simp; rfl)); (case hp => exact (Reps.one (show Kd.M Kd.string _ _ _ ((rd_T29 l0 x18_1).f0) [.string ((rd_T29 l0 x18_1).f0)] from rfl) (Reps.one (show Kd.M Kd.string _ _ _ ((rd_T29 l0 x18_1).f1) [.string ((rd_T29 l0 x18_1).f1)] from rfl) (Reps.none _ _)))); intro v240 w15 ho16 hb hg_ hnew_; clear hg_ hnew_; (first | rw [← Ny239.out] at ho16 | (simp only [Int.reduceToNat] at ho16; rw [← Ny239.out] at ho16)); have n0_ := Aside0.mk (Kd.R_lower ho16 (below_size (by repeat (first | (with_reducible first | exact HB.out | apply below_alloc | apply pw_below_drewN | apply below_drew1 | refine below_set ?_ GE238.out) | exact HB.out)))); have n1_ := Aside0.mk (blk_below (g := gb238) (o := .cells #[.string ((rd_T29 l0 x18_1).f0), .string ((rd_T29 l0 x18_1).f1)] 29 (0, 0)) (by (with_reducible repeat (first | refine blk_drewN ?_ _ | refine blk_drew ?_ | refine blk_alloc ?_ _)); refine blk_put (cs := #[.string ((rd_T29 l0 x18_1).f0), .string (⟨#[]⟩ : ByteArray)]) ?_ 1 _ rfl; (with_reducible repeat (first | refine blk_drewN ?_ _ | refine blk_drew ?_ | refine blk_alloc ?_ _)); refine blk_put (cs := #[.string (⟨#[]⟩ : ByteArray), .string (⟨#[]⟩ : ByteArray)]) ?_ 0 _ rfl; (with_reducible repeat (first | refine blk_drewN ?_ _ | refine blk_drew ?_ | refine blk_alloc ?_ _)); exact BK238.out) hb); have n2_ := Aside0.mk (below_step (by repeat (first | (with_reducible first | exact HB.out | apply below_alloc | apply pw_below_drewN | apply below_drew1 | refine below_set ?_ GE238.out) | exact HB.out)) hb); clear BK238; clear HB; have HO241 := n0_; have BK238 := n1_; have HB := n2_; clear n0_ n1_ n2_; clear hb ho16; obtain ⟨Ao17, co17, eo17⟩ := Kd.R_slice HO241.out; subst eo17)); try go_wp2_with (first | ((with_reducible refine gate_dst (N := 5) rfl ?_); refine box_event ?hg (N := 5) ?hd (cs := #[.string (⟨#[]⟩ : ByteArray), .string (⟨#[]⟩ : ByteArray)]) (t := 29) ?hr ?_; (case hd => rfl); (case hg => rfl); (case hr => first | (go_simp; done) | (go_simp; rfl)); intro gb238 hg w13 hbox hb; have n0_ := Aside0.mk (below_step (by repeat (first | (with_reducible first | exact HB.out | apply below_alloc | apply pw_below_drewN | apply below_drew1) | exact HB.out)) hb); have n1_ := Aside0.mk (hbox); have n2_ := Aside0.mk ((by rw [hg]; exact (below_size (by repeat (first | (with_reducible first | exact HB.out | apply below_alloc | apply pw_below_drewN | apply below_drew1) | exact HB.out))) : w.heap.size ≤ gb238)); have n3_ := Aside0.mk ((by rw [hg]; exact (below_size (by repeat (first | (with_reducible first | exact HB.out | apply below_alloc | apply pw_below_drewN | apply below_drew1) | exact HB.out))) : w.heap.size ≤ gb238)); clear HB; have HB := n0_; have BK238 := n1_; have GW238 := n2_; have GE238 := n3_; clear n0_ n1_ n2_ n3_; clear hb hbox hg; have hcz14_0 : w13.cell? ⟨gb238, 0, none⟩ = some (.string (⟨#[]⟩ : ByteArray)) := (blk_cell BK238.out 0).trans rfl; have hcz14_1 : w13.cell? ⟨gb238, 1, none⟩ = some (.string (⟨#[]⟩ : ByteArray)) := (blk_cell BK238.out 1).trans rfl; have hfz14_0 := blk_frozen BK238.out 0; have hfz14_1 := blk_frozen BK238.out 1) | ((with_reducible refine gate_dst (N := 34) rfl ?_); refine Kd.R_lit Kd.string _ 9 ?hg (N := 34) ?hd (xs := ([(rd_T29 l0 x18_1).f0, (rd_T29 l0 x18_1).f1] : List ByteArray)) (inner := [.string ((rd_T29 l0 x18_1).f0), .string ((rd_T29 l0 x18_1).f1)]) (ok := fun _ => True) (okp := fun _ => True) ?hr ?hp (fun _ hk => hk) trivial (Below.refl _ _) (Nat.le_refl _) (by simp) ?_; (case hd => rfl); (case hg => rfl); (case hr => first | (go_simp; done) | (go_simp; rfl)); (case hp => exact (Reps.one (show Kd.M Kd.string _ _ _ ((rd_T29 l0 x18_1).f0) [.string ((rd_T29 l0 x18_1).f0)] from rfl) (Reps.one (show Kd.M Kd.string _ _ _ ((rd_T29 l0 x18_1).f1) [.string ((rd_T29 l0 x18_1).f1)] from rfl) (Reps.none _ _)))); intro v240 w15 ho16 hb hg_ hnew_; clear hg_ hnew_; (first | rw [← Ny239.out] at ho16 | (simp only [Int.reduceToNat] at ho16; rw [← Ny239.out] at ho16)); have n0_ := Aside0.mk (Kd.R_lower ho16 (below_size (by repeat (first | (with_reducible first | exact HB.out | apply below_alloc | apply pw_below_drewN | apply below_drew1 | refine below_set ?_ GE238.out) | exact HB.out)))); have n1_ := Aside0.mk (blk_below (g := gb238) (o := .cells #[.string ((rd_T29 l0 x18_1).f0), .string ((rd_T29 l0 x18_1).f1)] 29 (0, 0)) (by (with_reducible repeat (first | refine blk_drewN ?_ _ | refine blk_drew ?_ | refine blk_alloc ?_ _)); refine blk_put (cs := #[.string ((rd_T29 l0 x18_1).f0), .string (⟨#[]⟩ : ByteArray)]) ?_ 1 _ rfl; (with_reducible repeat (first | refine blk_drewN ?_ _ | refine blk_drew ?_ | refine blk_alloc ?_ _)); refine blk_put (cs := #[.string (⟨#[]⟩ : ByteArray), .string (⟨#[]⟩ : ByteArray)]) ?_ 0 _ rfl; (with_reducible repeat (first | refine blk_drewN ?_ _ | refine blk_drew ?_ | refine blk_alloc ?_ _)); exact BK238.out) hb); have n2_ := Aside0.mk (below_step (by repeat (first | (with_reducible first | exact HB.out | apply below_alloc | apply pw_below_drewN | apply below_drew1 | refine below_set ?_ GE238.out) | exact HB.out)) hb); clear BK238; clear HB; have HO241 := n0_; have BK238 := n1_; have HB := n2_; clear n0_ n1_ n2_; clear hb ho16; obtain ⟨Ao17, co17, eo17⟩ := Kd.R_slice HO241.out; subst eo17)))
                  go_loopg [36] k1 (fun kq v36 w' => ∃ (x36_2 : Int), v36 = .int .i64 x36_2 ∧ Aside0 (scrimlaw07_ScanBlocks.l1 kq l0 x3_1 l0 (l0.length : Int) x18_1 y239 (y239.length : Int) x36_2 ((rd_T29 l0 x18_1).f0) ((rd_T29 l0 x18_1).f1) = some r) ∧ Aside0 (kq ≤ k1) ∧ Aside0 (Kd.R Kd.string 9 w' w.heap.size (fun _ => True) (.slice Ao17 y239.length co17) y239) ∧ Aside0 (w'.heap[gb238]? = some (.cells #[.string ((rd_T29 l0 x18_1).f0), .string ((rd_T29 l0 x18_1).f1)] 29 (0, 0))) ∧ Aside0 (Below w.heap.size w w'))
                  case atStart => exact ⟨(0), (by first | rfl | (simp; done) | (simp [*]; done)), H', ⟨Nat.le_refl _⟩, ⟨by (with_reducible repeat (first | apply Kd.R_alloc | apply Kd.R_drewN | apply Kd.R_drew)); exact HO241.out⟩, ⟨by (with_reducible repeat (first | refine blk_drewN ?_ _ | refine blk_drew ?_ | refine blk_alloc ?_ _)); exact BK238.out⟩, ⟨by repeat (first | (with_reducible first | exact HB.out | apply below_alloc | apply pw_below_drewN | apply below_drew1 | refine below_set ?_ GE238.out) | exact HB.out)⟩⟩
                  case round =>
                    clear H'
                    try clear c1
                    try clear p2
                    try clear q2
                    try clear hx2
                    try clear c3
                    try clear c4
                    try clear c4b0
                    try clear c4b1
                    try clear c6
                    try clear p6
                    try clear c7
                    try clear c7b0
                    try clear c8
                    try clear c8b0
                    try clear c9
                    try clear c9b0
                    try clear c10
                    try clear c10b0
                    try clear hcz12_0
                    try clear hcz12_1
                    try clear hcz14_0
                    try clear hcz14_1
                    try clear hfz12_0
                    try clear hfz12_1
                    try clear hfz14_0
                    try clear hfz14_1
                    try clear hx237_0
                    try clear hx237_1
                    try clear p2
                    try clear p237
                    try clear q237
                    obtain ⟨x36_2, rfl, HA, HK2, HO_34, BK238, HB⟩ := hrel
                    cases gk with
                    | zero => exact absurd HA.out (by simp [scrimlaw07_ScanBlocks.l1])
                    | succ k2 =>
                      have H := HA.out
                      clear HA
                      simp only [scrimlaw07_ScanBlocks.l1] at H
                      by_cases c18 : x36_2 < (y239.length : Int)
                      · rw [if_pos c18] at H
                        have c18b0 : decide (x36_2 < (y239.length : Int)) = true := decide_eq_true c18
                        clear c18
                        by_cases c19 : 0 ≤ x36_2
                        · rw [if_pos c19] at H
                          have c19b0 : decide (0 ≤ x36_2) = true := decide_eq_true c19
                          clear c19
                          by_cases c20 : x36_2 < (y239.length : Int)
                          · rw [if_pos c20] at H
                            have c20b0 : decide (x36_2 < (y239.length : Int)) = true := decide_eq_true c20
                            clear c20
                            have H' := Aside0.mk H
                            clear H
                            have p242 : 0 ≤ (x36_2 : Int) := of_decide_eq_true (by first | (with_reducible assumption) | assumption)
                            have q242 : x36_2 < (y239.length : Int) := of_decide_eq_true (by first | (with_reducible assumption) | assumption)
                            obtain ⟨ad242, e242, hx242_0⟩ := Kd.at_string (Kd.R_reads' HO_34.out).2.2 x36_2 p242 q242
                            cases e242
                            replace p242 := eq_true p242
                            replace q242 := eq_true q242
                            go_wp2
                            repeat (go_quiet (fail); try go_wp2)
                            go_loopg [8] k2 (fun kq v8 w' => ∃ (x8_3 : Int), v8 = .int .i64 x8_3 ∧ Aside0 (scrimlaw07_ScanBlocks.l2 kq l0 x3_1 (rdOf ByteArray.empty y239 x36_2) x8_3 l0 (l0.length : Int) x18_1 y239 (y239.length : Int) x36_2 ((rd_T29 l0 x18_1).f0) ((rd_T29 l0 x18_1).f1) = some r) ∧ Aside0 (kq ≤ k2) ∧ Aside0 (Kd.R Kd.string 9 w' w.heap.size (fun _ => True) (.slice (some ad242) y239.length co17) y239) ∧ Aside0 (w'.heap[gb238]? = some (.cells #[.string ((rd_T29 l0 x18_1).f0), .string ((rd_T29 l0 x18_1).f1)] 29 (0, 0))) ∧ Aside0 (Below w.heap.size w w'))
                            case atStart => exact ⟨(0), (by first | rfl | (simp; done) | (simp [*]; done)), H', ⟨Nat.le_refl _⟩, ⟨by (with_reducible repeat (first | apply Kd.R_alloc | apply Kd.R_drewN | apply Kd.R_drew)); exact HO_34.out⟩, ⟨by (with_reducible repeat (first | refine blk_drewN ?_ _ | refine blk_drew ?_ | refine blk_alloc ?_ _)); exact BK238.out⟩, ⟨by repeat (first | (with_reducible first | exact HB.out | apply below_alloc | apply pw_below_drewN | apply below_drew1 | refine below_set ?_ GE238.out) | exact HB.out)⟩⟩
                            case round =>
                              clear H'
                              try clear c1
                              try clear c2
                              try clear p2
                              try clear q2
                              try clear hx2
                              try clear c3
                              try clear c4
                              try clear c4b0
                              try clear c4b1
                              try clear c6
                              try clear p6
                              try clear c7
                              try clear c7b0
                              try clear c8
                              try clear c8b0
                              try clear c9
                              try clear c9b0
                              try clear c10
                              try clear c10b0
                              try clear c18
                              try clear c18b0
                              try clear c19
                              try clear c19b0
                              try clear c20
                              try clear c20b0
                              try clear hcz12_0
                              try clear hcz12_1
                              try clear hcz14_0
                              try clear hcz14_1
                              try clear hfz12_0
                              try clear hfz12_1
                              try clear hfz14_0
                              try clear hfz14_1
                              try clear hx237_0
                              try clear hx237_1
                              try clear hx242_0
                              try clear p2
                              try clear p237
                              try clear p242
                              try clear p6
                              try clear q2
                              try clear q237
                              try clear q242
                              obtain ⟨x8_3, rfl, HA, HK3, HO_34, BK238, HB⟩ := hrel
                              cases gk with
                              | zero => exact absurd HA.out (by simp [scrimlaw07_ScanBlocks.l2])
                              | succ k3 =>
                                have H := HA.out
                                clear HA
                                simp only [scrimlaw07_ScanBlocks.l2] at H
                                by_cases c21 : x8_3 < ((rdOf ByteArray.empty y239 x36_2).size : Int)
                                · rw [if_pos c21] at H
                                  have c21b0 : decide (x8_3 < ((rdOf ByteArray.empty y239 x36_2).size : Int)) = true := decide_eq_true c21
                                  clear c21
                                  by_cases c22 : 0 ≤ x8_3
                                  · rw [if_pos c22] at H
                                    have c22b0 : decide (0 ≤ x8_3) = true := decide_eq_true c22
                                    clear c22
                                    by_cases c24 : (bt (rdOf ByteArray.empty y239 x36_2) x8_3) = 123
                                    · rw [if_pos c24] at H
                                      have c24b0 : ((bt (rdOf ByteArray.empty y239 x36_2) x8_3) == 123) = true := beq_iff_eq.mpr c24
                                      have c24b1 : ((bt (rdOf ByteArray.empty y239 x36_2) x8_3) != 123) = false := bne_eq_false_iff_eq.mpr c24
                                      clear c24
                                      obtain rfl := Option.some.inj H; clear hrt; try clear H
                                      have p23 : 0 ≤ (x8_3 : Int) := of_decide_eq_true (by first | (with_reducible assumption) | assumption)
                                      have q23 : x8_3 < ((rdOf ByteArray.empty y239 x36_2).size : Int) := of_decide_eq_true (by first | (with_reducible assumption) | assumption)
                                      have hx23 := bt_at (rdOf ByteArray.empty y239 x36_2) x8_3
                                      replace p23 := eq_true p23
                                      replace q23 := eq_true q23
                                      go_wp2
                                      repeat (go_quiet (fail); try go_wp2)
                                      go_ret
                                      exact ⟨by first | rfl | (simp [errW_none, errW_some] <;> rfl) | (simp [*, errW_none, errW_some] <;> rfl), by repeat (first | (with_reducible first | exact HB.out | apply below_alloc | apply pw_below_drewN | apply below_drew1 | refine below_set ?_ GE238.out) | exact HB.out)⟩
                                    · rw [if_neg c24] at H
                                      have c24b0 : ((bt (rdOf ByteArray.empty y239 x36_2) x8_3) == 123) = false := beq_eq_false_iff_ne.mpr c24
                                      have c24b1 : ((bt (rdOf ByteArray.empty y239 x36_2) x8_3) != 123) = true := bne_iff_ne.mpr c24
                                      by_cases c26 : (bt (rdOf ByteArray.empty y239 x36_2) x8_3) = 125
                                      · rw [if_pos c26] at H
                                        have c26b0 : ((bt (rdOf ByteArray.empty y239 x36_2) x8_3) == 125) = true := beq_iff_eq.mpr c26
                                        have c26b1 : ((bt (rdOf ByteArray.empty y239 x36_2) x8_3) != 125) = false := bne_eq_false_iff_eq.mpr c26
                                        clear c26
                                        obtain rfl := Option.some.inj H; clear hrt; try clear H
                                        have p23 : 0 ≤ (x8_3 : Int) := of_decide_eq_true (by first | (with_reducible assumption) | assumption)
                                        have q23 : x8_3 < ((rdOf ByteArray.empty y239 x36_2).size : Int) := of_decide_eq_true (by first | (with_reducible assumption) | assumption)
                                        have hx23 := bt_at (rdOf ByteArray.empty y239 x36_2) x8_3
                                        replace p23 := eq_true p23
                                        replace q23 := eq_true q23
                                        have p25 : 0 ≤ (x8_3 : Int) := of_decide_eq_true (by first | (with_reducible assumption) | assumption)
                                        have q25 : x8_3 < ((rdOf ByteArray.empty y239 x36_2).size : Int) := of_decide_eq_true (by first | (with_reducible assumption) | assumption)
                                        have hx25 := bt_at (rdOf ByteArray.empty y239 x36_2) x8_3
                                        replace p25 := eq_true p25
                                        replace q25 := eq_true q25
                                        go_wp2
                                        repeat (go_quiet (fail); try go_wp2)
                                        go_ret
                                        exact ⟨by first | rfl | (simp [errW_none, errW_some] <;> rfl) | (simp [*, errW_none, errW_some] <;> rfl), by repeat (first | (with_reducible first | exact HB.out | apply below_alloc | apply pw_below_drewN | apply below_drew1 | refine below_set ?_ GE238.out) | exact HB.out)⟩
                                      · rw [if_neg c26] at H
                                        have c26b0 : ((bt (rdOf ByteArray.empty y239 x36_2) x8_3) == 125) = false := beq_eq_false_iff_ne.mpr c26
                                        have c26b1 : ((bt (rdOf ByteArray.empty y239 x36_2) x8_3) != 125) = true := bne_iff_ne.mpr c26
                                        have H' := Aside0.mk H
                                        clear H
                                        have p23 : 0 ≤ (x8_3 : Int) := of_decide_eq_true (by first | (with_reducible assumption) | assumption)
                                        have q23 : x8_3 < ((rdOf ByteArray.empty y239 x36_2).size : Int) := of_decide_eq_true (by first | (with_reducible assumption) | assumption)
                                        have hx23 := bt_at (rdOf ByteArray.empty y239 x36_2) x8_3
                                        replace p23 := eq_true p23
                                        replace q23 := eq_true q23
                                        have p25 : 0 ≤ (x8_3 : Int) := of_decide_eq_true (by first | (with_reducible assumption) | assumption)
                                        have q25 : x8_3 < ((rdOf ByteArray.empty y239 x36_2).size : Int) := of_decide_eq_true (by first | (with_reducible assumption) | assumption)
                                        have hx25 := bt_at (rdOf ByteArray.empty y239 x36_2) x8_3
                                        replace p25 := eq_true p25
                                        replace q25 := eq_true q25
                                        go_wp2
                                        repeat (go_quiet (fail); try go_wp2)
                                        go_roundg k3
                                        case measure => have := HK1.out; have := HK2.out; have := HK3.out; omega
                                        case rel => exact ⟨(wrap64 (x8_3 + 1)), (by first | rfl | (simp; done) | (simp [*]; done)), H', ⟨by have := HK1.out; have := HK2.out; have := HK3.out; omega⟩, ⟨by (with_reducible repeat (first | apply Kd.R_alloc | apply Kd.R_drewN | apply Kd.R_drew)); exact HO_34.out⟩, ⟨by (with_reducible repeat (first | refine blk_drewN ?_ _ | refine blk_drew ?_ | refine blk_alloc ?_ _)); exact BK238.out⟩, ⟨by repeat (first | (with_reducible first | exact HB.out | apply below_alloc | apply pw_below_drewN | apply below_drew1 | refine below_set ?_ GE238.out) | exact HB.out)⟩⟩
                                  · rw [if_neg c22] at H
                                    exact absurd H (by simp)
                                · rw [if_neg c21] at H
                                  have c21b0 : decide (x8_3 < ((rdOf ByteArray.empty y239 x36_2).size : Int)) = false := decide_eq_false c21
                                  clear c21
                                  replace H := Option.bind_eq_some_iff.mp H
                                  obtain ⟨t243, A270, H⟩ := H
                                  replace H : (if t243.toList = (rdOf ByteArray.empty y239 x36_2).toList then (scrimlaw07_ScanBlocks.l1 k3 l0 x3_1 l0 (l0.length : Int) x18_1 y239 (y239.length : Int) (wrap64 (x36_2 + 1)) ((rd_T29 l0 x18_1).f0) ((rd_T29 l0 x18_1).f1)) else (some true)) = some r := H
                                  have A27 := Aside0.mk A270
                                  clear A270
                                  by_cases c28 : t243.toList = (rdOf ByteArray.empty y239 x36_2).toList
                                  · rw [if_pos c28] at H
                                    have c28b0 : (t243.toList == (rdOf ByteArray.empty y239 x36_2).toList) = true := beq_iff_eq.mpr c28
                                    have c28b1 : (t243.toList != (rdOf ByteArray.empty y239 x36_2).toList) = false := bne_eq_false_iff_eq.mpr c28
                                    clear c28
                                    have H' := Aside0.mk H
                                    clear H
                                    go_wp2_with (first | (go_at_call 12; (with_reducible refine (scan_Trim.calls (rdOf ByteArray.empty y239 x36_2) t243 _ A27.out).mono ?_); rintro e w29 ⟨rfl, hb⟩; have n0_ := Aside0.mk (Kd.R_below (by (with_reducible repeat (first | apply Kd.R_alloc | apply Kd.R_drewN | apply Kd.R_drew)); exact HO_34.out) hb); have n1_ := Aside0.mk (blk_below (g := gb238) (o := .cells #[.string ((rd_T29 l0 x18_1).f0), .string ((rd_T29 l0 x18_1).f1)] 29 (0, 0)) (by (with_reducible repeat (first | refine blk_drewN ?_ _ | refine blk_drew ?_ | refine blk_alloc ?_ _)); exact BK238.out) hb); have n2_ := Aside0.mk (below_step (by repeat (first | (with_reducible first | exact HB.out | apply below_alloc | apply pw_below_drewN | apply below_drew1 | refine below_set ?_ GE238.out) | exact HB.out)) hb); clear HO_34; clear BK238; clear HB; have HO_34 := n0_; have BK238 := n1_; have HB := n2_; clear n0_ n1_ n2_; (try clear hb); (try clear hb2); (try clear hk); (try clear hi)))
                                    repeat (go_quiet (first | (go_at_call 12; (with_reducible refine (scan_Trim.calls (rdOf ByteArray.empty y239 x36_2) t243 _ A27.out).mono ?_); rintro e w29 ⟨rfl, hb⟩; have n0_ := Aside0.mk (Kd.R_below (by (with_reducible repeat (first | apply Kd.R_alloc | apply Kd.R_drewN | apply Kd.R_drew)); exact HO_34.out) hb); have n1_ := Aside0.mk (blk_below (g := gb238) (o := .cells #[.string ((rd_T29 l0 x18_1).f0), .string ((rd_T29 l0 x18_1).f1)] 29 (0, 0)) (by (with_reducible repeat (first | refine blk_drewN ?_ _ | refine blk_drew ?_ | refine blk_alloc ?_ _)); exact BK238.out) hb); have n2_ := Aside0.mk (below_step (by repeat (first | (with_reducible first | exact HB.out | apply below_alloc | apply pw_below_drewN | apply below_drew1 | refine below_set ?_ GE238.out) | exact HB.out)) hb); clear HO_34; clear BK238; clear HB; have HO_34 := n0_; have BK238 := n1_; have HB := n2_; clear n0_ n1_ n2_; (try clear hb); (try clear hb2); (try clear hk); (try clear hi))); try go_wp2_with (first | (go_at_call 12; (with_reducible refine (scan_Trim.calls (rdOf ByteArray.empty y239 x36_2) t243 _ A27.out).mono ?_); rintro e w29 ⟨rfl, hb⟩; have n0_ := Aside0.mk (Kd.R_below (by (with_reducible repeat (first | apply Kd.R_alloc | apply Kd.R_drewN | apply Kd.R_drew)); exact HO_34.out) hb); have n1_ := Aside0.mk (blk_below (g := gb238) (o := .cells #[.string ((rd_T29 l0 x18_1).f0), .string ((rd_T29 l0 x18_1).f1)] 29 (0, 0)) (by (with_reducible repeat (first | refine blk_drewN ?_ _ | refine blk_drew ?_ | refine blk_alloc ?_ _)); exact BK238.out) hb); have n2_ := Aside0.mk (below_step (by repeat (first | (with_reducible first | exact HB.out | apply below_alloc | apply pw_below_drewN | apply below_drew1 | refine below_set ?_ GE238.out) | exact HB.out)) hb); clear HO_34; clear BK238; clear HB; have HO_34 := n0_; have BK238 := n1_; have HB := n2_; clear n0_ n1_ n2_; (try clear hb); (try clear hb2); (try clear hk); (try clear hi))))
                                    go_roundg k3
                                    case measure => have := HK1.out; have := HK2.out; have := HK3.out; omega
                                    case rel => exact ⟨(wrap64 (x36_2 + 1)), (by first | rfl | (simp; done) | (simp [*]; done)), H', ⟨by have := HK1.out; have := HK2.out; have := HK3.out; omega⟩, ⟨by (with_reducible repeat (first | apply Kd.R_alloc | apply Kd.R_drewN | apply Kd.R_drew)); exact HO_34.out⟩, ⟨by (with_reducible repeat (first | refine blk_drewN ?_ _ | refine blk_drew ?_ | refine blk_alloc ?_ _)); exact BK238.out⟩, ⟨by repeat (first | (with_reducible first | exact HB.out | apply below_alloc | apply pw_below_drewN | apply below_drew1 | refine below_set ?_ GE238.out) | exact HB.out)⟩⟩
                                  · rw [if_neg c28] at H
                                    have c28b0 : (t243.toList == (rdOf ByteArray.empty y239 x36_2).toList) = false := beq_eq_false_iff_ne.mpr c28
                                    have c28b1 : (t243.toList != (rdOf ByteArray.empty y239 x36_2).toList) = true := bne_iff_ne.mpr c28
                                    obtain rfl := Option.some.inj H; clear hrt; try clear H
                                    go_wp2_with (first | (go_at_call 12; (with_reducible refine (scan_Trim.calls (rdOf ByteArray.empty y239 x36_2) t243 _ A27.out).mono ?_); rintro e w30 ⟨rfl, hb⟩; have n0_ := Aside0.mk (Kd.R_below (by (with_reducible repeat (first | apply Kd.R_alloc | apply Kd.R_drewN | apply Kd.R_drew)); exact HO_34.out) hb); have n1_ := Aside0.mk (blk_below (g := gb238) (o := .cells #[.string ((rd_T29 l0 x18_1).f0), .string ((rd_T29 l0 x18_1).f1)] 29 (0, 0)) (by (with_reducible repeat (first | refine blk_drewN ?_ _ | refine blk_drew ?_ | refine blk_alloc ?_ _)); exact BK238.out) hb); have n2_ := Aside0.mk (below_step (by repeat (first | (with_reducible first | exact HB.out | apply below_alloc | apply pw_below_drewN | apply below_drew1 | refine below_set ?_ GE238.out) | exact HB.out)) hb); clear HO_34; clear BK238; clear HB; have HO_34 := n0_; have BK238 := n1_; have HB := n2_; clear n0_ n1_ n2_; (try clear hb); (try clear hb2); (try clear hk); (try clear hi)))
                                    repeat (go_quiet (first | (go_at_call 12; (with_reducible refine (scan_Trim.calls (rdOf ByteArray.empty y239 x36_2) t243 _ A27.out).mono ?_); rintro e w30 ⟨rfl, hb⟩; have n0_ := Aside0.mk (Kd.R_below (by (with_reducible repeat (first | apply Kd.R_alloc | apply Kd.R_drewN | apply Kd.R_drew)); exact HO_34.out) hb); have n1_ := Aside0.mk (blk_below (g := gb238) (o := .cells #[.string ((rd_T29 l0 x18_1).f0), .string ((rd_T29 l0 x18_1).f1)] 29 (0, 0)) (by (with_reducible repeat (first | refine blk_drewN ?_ _ | refine blk_drew ?_ | refine blk_alloc ?_ _)); exact BK238.out) hb); have n2_ := Aside0.mk (below_step (by repeat (first | (with_reducible first | exact HB.out | apply below_alloc | apply pw_below_drewN | apply below_drew1 | refine below_set ?_ GE238.out) | exact HB.out)) hb); clear HO_34; clear BK238; clear HB; have HO_34 := n0_; have BK238 := n1_; have HB := n2_; clear n0_ n1_ n2_; (try clear hb); (try clear hb2); (try clear hk); (try clear hi))); try go_wp2_with (first | (go_at_call 12; (with_reducible refine (scan_Trim.calls (rdOf ByteArray.empty y239 x36_2) t243 _ A27.out).mono ?_); rintro e w30 ⟨rfl, hb⟩; have n0_ := Aside0.mk (Kd.R_below (by (with_reducible repeat (first | apply Kd.R_alloc | apply Kd.R_drewN | apply Kd.R_drew)); exact HO_34.out) hb); have n1_ := Aside0.mk (blk_below (g := gb238) (o := .cells #[.string ((rd_T29 l0 x18_1).f0), .string ((rd_T29 l0 x18_1).f1)] 29 (0, 0)) (by (with_reducible repeat (first | refine blk_drewN ?_ _ | refine blk_drew ?_ | refine blk_alloc ?_ _)); exact BK238.out) hb); have n2_ := Aside0.mk (below_step (by repeat (first | (with_reducible first | exact HB.out | apply below_alloc | apply pw_below_drewN | apply below_drew1 | refine below_set ?_ GE238.out) | exact HB.out)) hb); clear HO_34; clear BK238; clear HB; have HO_34 := n0_; have BK238 := n1_; have HB := n2_; clear n0_ n1_ n2_; (try clear hb); (try clear hb2); (try clear hk); (try clear hi))))
                                    go_ret
                                    exact ⟨by first | rfl | (simp [errW_none, errW_some] <;> rfl) | (simp [*, errW_none, errW_some] <;> rfl), by repeat (first | (with_reducible first | exact HB.out | apply below_alloc | apply pw_below_drewN | apply below_drew1 | refine below_set ?_ GE238.out) | exact HB.out)⟩
                          · rw [if_neg c20] at H
                            exact absurd H (by simp)
                        · rw [if_neg c19] at H
                          exact absurd H (by simp)
                      · rw [if_neg c18] at H
                        have c18b0 : decide (x36_2 < (y239.length : Int)) = false := decide_eq_false c18
                        clear c18
                        by_cases c31 : 1 + ((rd_T29 l0 x18_1).f0).size ≤ 9223372036854775807
                        · rw [if_pos c31] at H
                          have c31b0 := eq_true c31
                          have c31b1 : decide (1 + ((rd_T29 l0 x18_1).f0).size ≤ 9223372036854775807) = true := decide_eq_true c31
                          try have c31b2 : (9223372036854775807 < 1 + ((rd_T29 l0 x18_1).f0).size) = False := eq_false (Nat.not_lt.2 c31)
                          by_cases c32 : ((⟨#[32]⟩ : ByteArray) ++ ((rd_T29 l0 x18_1).f0)).size + 2 ≤ 9223372036854775807
                          · rw [if_pos c32] at H
                            have c32b0 := eq_true c32
                            have c32b1 : decide (((⟨#[32]⟩ : ByteArray) ++ ((rd_T29 l0 x18_1).f0)).size + 2 ≤ 9223372036854775807) = true := decide_eq_true c32
                            try have c32b2 : (9223372036854775807 < ((⟨#[32]⟩ : ByteArray) ++ ((rd_T29 l0 x18_1).f0)).size + 2) = False := eq_false (Nat.not_lt.2 c32)
                            by_cases c33 : (((⟨#[32]⟩ : ByteArray) ++ ((rd_T29 l0 x18_1).f0)) ++ (⟨#[123, 32]⟩ : ByteArray)).size + ((rd_T29 l0 x18_1).f1).size ≤ 9223372036854775807
                            · rw [if_pos c33] at H
                              have c33b0 := eq_true c33
                              have c33b1 : decide ((((⟨#[32]⟩ : ByteArray) ++ ((rd_T29 l0 x18_1).f0)) ++ (⟨#[123, 32]⟩ : ByteArray)).size + ((rd_T29 l0 x18_1).f1).size ≤ 9223372036854775807) = true := decide_eq_true c33
                              try have c33b2 : (9223372036854775807 < (((⟨#[32]⟩ : ByteArray) ++ ((rd_T29 l0 x18_1).f0)) ++ (⟨#[123, 32]⟩ : ByteArray)).size + ((rd_T29 l0 x18_1).f1).size) = False := eq_false (Nat.not_lt.2 c33)
                              by_cases c34 : ((((⟨#[32]⟩ : ByteArray) ++ ((rd_T29 l0 x18_1).f0)) ++ (⟨#[123, 32]⟩ : ByteArray)) ++ ((rd_T29 l0 x18_1).f1)).size + 2 ≤ 9223372036854775807
                              · rw [if_pos c34] at H
                                have c34b0 := eq_true c34
                                have c34b1 : decide (((((⟨#[32]⟩ : ByteArray) ++ ((rd_T29 l0 x18_1).f0)) ++ (⟨#[123, 32]⟩ : ByteArray)) ++ ((rd_T29 l0 x18_1).f1)).size + 2 ≤ 9223372036854775807) = true := decide_eq_true c34
                                try have c34b2 : (9223372036854775807 < ((((⟨#[32]⟩ : ByteArray) ++ ((rd_T29 l0 x18_1).f0)) ++ (⟨#[123, 32]⟩ : ByteArray)) ++ ((rd_T29 l0 x18_1).f1)).size + 2) = False := eq_false (Nat.not_lt.2 c34)
                                by_cases c35 : x3_1.size + (((((⟨#[32]⟩ : ByteArray) ++ ((rd_T29 l0 x18_1).f0)) ++ (⟨#[123, 32]⟩ : ByteArray)) ++ ((rd_T29 l0 x18_1).f1)) ++ (⟨#[10, 125]⟩ : ByteArray)).size ≤ 9223372036854775807
                                · rw [if_pos c35] at H
                                  have c35b0 := eq_true c35
                                  have c35b1 : decide (x3_1.size + (((((⟨#[32]⟩ : ByteArray) ++ ((rd_T29 l0 x18_1).f0)) ++ (⟨#[123, 32]⟩ : ByteArray)) ++ ((rd_T29 l0 x18_1).f1)) ++ (⟨#[10, 125]⟩ : ByteArray)).size ≤ 9223372036854775807) = true := decide_eq_true c35
                                  try have c35b2 : (9223372036854775807 < x3_1.size + (((((⟨#[32]⟩ : ByteArray) ++ ((rd_T29 l0 x18_1).f0)) ++ (⟨#[123, 32]⟩ : ByteArray)) ++ ((rd_T29 l0 x18_1).f1)) ++ (⟨#[10, 125]⟩ : ByteArray)).size) = False := eq_false (Nat.not_lt.2 c35)
                                  have H' := Aside0.mk H
                                  clear H
                                  have hcz36_0 : wr.cell? ⟨gb238, 0, none⟩ = some (.string ((rd_T29 l0 x18_1).f0)) := (blk_cell BK238.out 0).trans rfl
                                  have hcz36_1 : wr.cell? ⟨gb238, 1, none⟩ = some (.string ((rd_T29 l0 x18_1).f1)) := (blk_cell BK238.out 1).trans rfl
                                  have hfz36_0 := blk_frozen BK238.out 0
                                  have hfz36_1 := blk_frozen BK238.out 1
                                  go_wp2
                                  repeat (next => (exfalso; rename_i hx_; have : ByteArray.size ⟨#[10, 125]⟩ = 2 := rfl; have : ByteArray.size ⟨#[123, 32]⟩ = 2 := rfl; have : ByteArray.size ⟨#[32]⟩ = 1 := rfl; (try simp only [ByteArray.size_extract, ByteArray.size_append] at c31); (try simp only [ByteArray.size_extract, ByteArray.size_append] at c32); (try simp only [ByteArray.size_extract, ByteArray.size_append] at c33); (try simp only [ByteArray.size_extract, ByteArray.size_append] at c34); (try simp only [ByteArray.size_extract, ByteArray.size_append] at c35); (try simp only [ByteArray.size_extract, ByteArray.size_append] at hx_); omega))
                                  repeat (go_quiet (fail); try go_wp2)
                                  go_roundg k2
                                  case measure => have := HK1.out; have := HK2.out; omega
                                  case rel => exact ⟨(x3_1 ++ (((((⟨#[32]⟩ : ByteArray) ++ ((rd_T29 l0 x18_1).f0)) ++ (⟨#[123, 32]⟩ : ByteArray)) ++ ((rd_T29 l0 x18_1).f1)) ++ (⟨#[10, 125]⟩ : ByteArray))), (wrap64 (x18_1 + 1)), (by first | rfl | (simp; done) | (simp [*]; done)), (by first | rfl | (simp; done) | (simp [*]; done)), H', ⟨by have := HK1.out; have := HK2.out; omega⟩, ⟨by repeat (first | (with_reducible first | exact HB.out | apply below_alloc | apply pw_below_drewN | apply below_drew1 | refine below_set ?_ GE238.out) | exact HB.out)⟩⟩
                                · rw [if_neg c35] at H
                                  exact absurd H (by simp)
                              · rw [if_neg c34] at H
                                exact absurd H (by simp)
                            · rw [if_neg c33] at H
                              exact absurd H (by simp)
                          · rw [if_neg c32] at H
                            exact absurd H (by simp)
                        · rw [if_neg c31] at H
                          exact absurd H (by simp)
              · rw [if_neg c9] at H
                exact absurd H (by simp)
            · rw [if_neg c8] at H
              exact absurd H (by simp)
          · rw [if_neg c7] at H
            have c7b0 : decide (x18_1 < (l0.length : Int)) = false := decide_eq_false c7
            clear c7
            replace H := Option.bind_eq_some_iff.mp H
            obtain ⟨t244, A370, H⟩ := H
            replace H : (if (t244.length : Int) = (l0.length : Int) then (scrimlaw07_ScanBlocks.l3 k1 l0 t244 (l0.length : Int) 0) else (some false)) = some r := H
            have A37 := Aside0.mk A370
            clear A370
            by_cases c38 : (t244.length : Int) = (l0.length : Int)
            · rw [if_pos c38] at H
              have c38b0 : ((t244.length : Int) == (l0.length : Int)) = true := beq_iff_eq.mpr c38
              have c38b1 : ((t244.length : Int) != (l0.length : Int)) = false := bne_eq_false_iff_eq.mpr c38
              have c38b2 : (t244.length == l0.length) = true := by first | simpa using c38 | (simp at c38 ⊢; omega)
              clear c38
              have H' := Aside0.mk H
              clear H
              go_wp2_with (first | (go_at_call 8; (with_reducible refine (scan_Blocks.calls k1 x3_1 t244 _ A37.out).mono ?_); rintro e w39 ⟨v245, rfl, ho0, hb⟩; have n0_ := Aside0.mk (Kd.R_lower ho0 (below_size (by repeat (first | (with_reducible first | exact HB.out | apply below_alloc | apply pw_below_drewN | apply below_drew1) | exact HB.out)))); have n1_ := Aside0.mk (below_step (by repeat (first | (with_reducible first | exact HB.out | apply below_alloc | apply pw_below_drewN | apply below_drew1) | exact HB.out)) hb); clear HB; have HO246 := n0_; have HB := n1_; clear n0_ n1_; (try clear hb); (try clear hb2); (try clear hk); (try clear hi); (try clear ho0); obtain ⟨Ao40, co40, eo40⟩ := Kd.R_slice HO246.out; subst eo40))
              repeat (go_quiet (first | (go_at_call 8; (with_reducible refine (scan_Blocks.calls k1 x3_1 t244 _ A37.out).mono ?_); rintro e w39 ⟨v245, rfl, ho0, hb⟩; have n0_ := Aside0.mk (Kd.R_lower ho0 (below_size (by repeat (first | (with_reducible first | exact HB.out | apply below_alloc | apply pw_below_drewN | apply below_drew1) | exact HB.out)))); have n1_ := Aside0.mk (below_step (by repeat (first | (with_reducible first | exact HB.out | apply below_alloc | apply pw_below_drewN | apply below_drew1) | exact HB.out)) hb); clear HB; have HO246 := n0_; have HB := n1_; clear n0_ n1_; (try clear hb); (try clear hb2); (try clear hk); (try clear hi); (try clear ho0); obtain ⟨Ao40, co40, eo40⟩ := Kd.R_slice HO246.out; subst eo40)); try go_wp2_with (first | (go_at_call 8; (with_reducible refine (scan_Blocks.calls k1 x3_1 t244 _ A37.out).mono ?_); rintro e w39 ⟨v245, rfl, ho0, hb⟩; have n0_ := Aside0.mk (Kd.R_lower ho0 (below_size (by repeat (first | (with_reducible first | exact HB.out | apply below_alloc | apply pw_below_drewN | apply below_drew1) | exact HB.out)))); have n1_ := Aside0.mk (below_step (by repeat (first | (with_reducible first | exact HB.out | apply below_alloc | apply pw_below_drewN | apply below_drew1) | exact HB.out)) hb); clear HB; have HO246 := n0_; have HB := n1_; clear n0_ n1_; (try clear hb); (try clear hb2); (try clear hk); (try clear hi); (try clear ho0); obtain ⟨Ao40, co40, eo40⟩ := Kd.R_slice HO246.out; subst eo40)))
              go_loopg [81] k1 (fun kq v81 w' => ∃ (x81_2 : Int), v81 = .int .i64 x81_2 ∧ Aside0 (scrimlaw07_ScanBlocks.l3 kq l0 t244 (l0.length : Int) x81_2 = some r) ∧ Aside0 (kq ≤ k1) ∧ Aside0 (Kd.R k29 29 w' w.heap.size (fun _ => True) (.slice Ao40 t244.length co40) t244) ∧ Aside0 (Below w.heap.size w w'))
              case atStart => exact ⟨(0), (by first | rfl | (simp; done) | (simp [*]; done)), H', ⟨Nat.le_refl _⟩, ⟨by (with_reducible repeat (first | apply Kd.R_alloc | apply Kd.R_drewN | apply Kd.R_drew)); exact HO246.out⟩, ⟨by repeat (first | (with_reducible first | exact HB.out | apply below_alloc | apply pw_below_drewN | apply below_drew1) | exact HB.out)⟩⟩
              case round =>
                clear H'
                try clear c1
                try clear c2
                try clear p2
                try clear q2
                try clear hx2
                try clear c3
                try clear c4
                try clear c4b0
                try clear c4b1
                try clear c6
                try clear p6
                try clear c7
                try clear c7b0
                try clear c8
                try clear c8b0
                try clear c9
                try clear c9b0
                try clear c10
                try clear c10b0
                try clear c18
                try clear c18b0
                try clear c19
                try clear c19b0
                try clear c20
                try clear c20b0
                try clear c21
                try clear c21b0
                try clear c22
                try clear c22b0
                try clear p23
                try clear q23
                try clear hx23
                try clear c24
                try clear c24b0
                try clear c24b1
                try clear p24
                try clear q24
                try clear hx24
                try clear p25
                try clear q25
                try clear hx25
                try clear c26
                try clear c26b0
                try clear c26b1
                try clear c28
                try clear c28b0
                try clear c28b1
                try clear c31
                try clear c31b0
                try clear c31b1
                try clear c31b2
                try clear c32
                try clear c32b0
                try clear c32b1
                try clear c32b2
                try clear c33
                try clear c33b0
                try clear c33b1
                try clear c33b2
                try clear c34
                try clear c34b0
                try clear c34b1
                try clear c34b2
                try clear c35
                try clear c35b0
                try clear c35b1
                try clear c35b2
                try clear c38
                try clear c38b0
                try clear c38b1
                try clear c38b2
                try clear hcz12_0
                try clear hcz12_1
                try clear hcz14_0
                try clear hcz14_1
                try clear hcz36_0
                try clear hcz36_1
                try clear hfz12_0
                try clear hfz12_1
                try clear hfz14_0
                try clear hfz14_1
                try clear hfz36_0
                try clear hfz36_1
                try clear hx237_0
                try clear hx237_1
                try clear hx242_0
                try clear p2
                try clear p23
                try clear p237
                try clear p242
                try clear p25
                try clear p6
                try clear q2
                try clear q23
                try clear q237
                try clear q242
                try clear q25
                obtain ⟨x81_2, rfl, HA, HK2, HO_9, HB⟩ := hrel
                cases gk with
                | zero => exact absurd HA.out (by simp [scrimlaw07_ScanBlocks.l3])
                | succ k2 =>
                  have H := HA.out
                  clear HA
                  simp only [scrimlaw07_ScanBlocks.l3] at H
                  by_cases c41 : x81_2 < (l0.length : Int)
                  · rw [if_pos c41] at H
                    have c41b0 : decide (x81_2 < (l0.length : Int)) = true := decide_eq_true c41
                    clear c41
                    by_cases c42 : 0 ≤ x81_2
                    · rw [if_pos c42] at H
                      have c42b0 : decide (0 ≤ x81_2) = true := decide_eq_true c42
                      clear c42
                      by_cases c43 : x81_2 < (t244.length : Int)
                      · rw [if_pos c43] at H
                        have c43b0 : decide (x81_2 < (t244.length : Int)) = true := decide_eq_true c43
                        clear c43
                        by_cases c44 : x81_2 < (l0.length : Int)
                        · rw [if_pos c44] at H
                          have c44b0 : decide (x81_2 < (l0.length : Int)) = true := decide_eq_true c44
                          clear c44
                          by_cases c45 : (!((((rd_T29 t244 x81_2).f0).toList) == (((rd_T29 l0 x81_2).f0).toList)) || (!((((rd_T29 t244 x81_2).f1).toList) == (((rd_T29 l0 x81_2).f1).toList)))) = true
                          · rw [if_pos c45] at H
                            have c45b0 : (!((((rd_T29 t244 x81_2).f0).toList) == (((rd_T29 l0 x81_2).f0).toList)) || (!((((rd_T29 t244 x81_2).f1).toList) == (((rd_T29 l0 x81_2).f1).toList)))) = true := c45
                            clear c45
                            obtain rfl := Option.some.inj H; clear hrt; try clear H
                            have p247 : 0 ≤ (x81_2 : Int) := of_decide_eq_true (by first | (with_reducible assumption) | assumption)
                            have q247 : x81_2 < (t244.length : Int) := of_decide_eq_true (by first | (with_reducible assumption) | assumption)
                            obtain ⟨ad247, e247, hx247_0, hx247_1⟩ := at_T29 (Kd.R_reads' HO_9.out).2.2 x81_2 p247 q247
                            cases e247
                            replace p247 := eq_true p247
                            replace q247 := eq_true q247
                            have p248 : 0 ≤ (x81_2 : Int) := of_decide_eq_true (by first | (with_reducible assumption) | assumption)
                            have q248 : x81_2 < (l0.length : Int) := of_decide_eq_true (by first | (with_reducible assumption) | assumption)
                            obtain ⟨ad248, e248, hx248_0, hx248_1⟩ := at_T29 HR0.out x81_2 p248 q248
                            cases e248
                            replace hx248_0 := (HB.out.cell (World.block_lt_of_cell? w _ hx248_0)).trans hx248_0
                            replace hx248_1 := (HB.out.cell (World.block_lt_of_cell? w _ hx248_1)).trans hx248_1
                            replace p248 := eq_true p248
                            replace q248 := eq_true q248
                            go_wp2
                            repeat (go_quiet (fail); try go_wp2)
                            go_ret
                            exact ⟨by first | rfl | (simp [errW_none, errW_some] <;> rfl) | (simp [*, errW_none, errW_some] <;> rfl), by repeat (first | (with_reducible first | exact HB.out | apply below_alloc | apply pw_below_drewN | apply below_drew1) | exact HB.out)⟩
                          · rw [if_neg c45] at H
                            have c45b0 : (!((((rd_T29 t244 x81_2).f0).toList) == (((rd_T29 l0 x81_2).f0).toList)) || (!((((rd_T29 t244 x81_2).f1).toList) == (((rd_T29 l0 x81_2).f1).toList)))) = false := by simpa using c45
                            clear c45
                            have H' := Aside0.mk H
                            clear H
                            have p247 : 0 ≤ (x81_2 : Int) := of_decide_eq_true (by first | (with_reducible assumption) | assumption)
                            have q247 : x81_2 < (t244.length : Int) := of_decide_eq_true (by first | (with_reducible assumption) | assumption)
                            obtain ⟨ad247, e247, hx247_0, hx247_1⟩ := at_T29 (Kd.R_reads' HO_9.out).2.2 x81_2 p247 q247
                            cases e247
                            replace p247 := eq_true p247
                            replace q247 := eq_true q247
                            have p248 : 0 ≤ (x81_2 : Int) := of_decide_eq_true (by first | (with_reducible assumption) | assumption)
                            have q248 : x81_2 < (l0.length : Int) := of_decide_eq_true (by first | (with_reducible assumption) | assumption)
                            obtain ⟨ad248, e248, hx248_0, hx248_1⟩ := at_T29 HR0.out x81_2 p248 q248
                            cases e248
                            replace hx248_0 := (HB.out.cell (World.block_lt_of_cell? w _ hx248_0)).trans hx248_0
                            replace hx248_1 := (HB.out.cell (World.block_lt_of_cell? w _ hx248_1)).trans hx248_1
                            replace p248 := eq_true p248
                            replace q248 := eq_true q248
                            go_wp2
                            repeat (go_quiet (fail); try go_wp2)
                            go_roundg k2
                            case measure => have := HK1.out; have := HK2.out; omega
                            case rel => exact ⟨(wrap64 (x81_2 + 1)), (by first | rfl | (simp; done) | (simp [*]; done)), H', ⟨by have := HK1.out; have := HK2.out; omega⟩, ⟨by (with_reducible repeat (first | apply Kd.R_alloc | apply Kd.R_drewN | apply Kd.R_drew)); exact HO_9.out⟩, ⟨by repeat (first | (with_reducible first | exact HB.out | apply below_alloc | apply pw_below_drewN | apply below_drew1) | exact HB.out)⟩⟩
                        · rw [if_neg c44] at H
                          exact absurd H (by simp)
                      · rw [if_neg c43] at H
                        exact absurd H (by simp)
                    · rw [if_neg c42] at H
                      exact absurd H (by simp)
                  · rw [if_neg c41] at H
                    have c41b0 : decide (x81_2 < (l0.length : Int)) = false := decide_eq_false c41
                    clear c41
                    obtain rfl := Option.some.inj H; clear hrt; try clear H
                    go_wp2
                    repeat (go_quiet (fail); try go_wp2)
                    go_ret
                    exact ⟨by first | rfl | (simp [errW_none, errW_some] <;> rfl) | (simp [*, errW_none, errW_some] <;> rfl), by repeat (first | (with_reducible first | exact HB.out | apply below_alloc | apply pw_below_drewN | apply below_drew1) | exact HB.out)⟩
            · rw [if_neg c38] at H
              have c38b0 : ((t244.length : Int) == (l0.length : Int)) = false := beq_eq_false_iff_ne.mpr c38
              have c38b1 : ((t244.length : Int) != (l0.length : Int)) = true := bne_iff_ne.mpr c38
              have c38b2 : (t244.length == l0.length) = false := by first | simpa using c38 | (simp at c38 ⊢; omega)
              exact absurd ((Option.some.inj H).trans hrt) (by decide)
  · replace c3 := Bool.eq_false_iff.mpr c3
    subst c3
    have H1 : (some false) = some r := by rw [if_neg (show ¬ (false = true) by decide)] at H; exact H
    clear H
    have H := H1
    clear H1
    exact absurd ((Option.some.inj H).trans hrt) (by decide)

end Go.Proofs.YtdifaomkaekglaaDoor.HS
