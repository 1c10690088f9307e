-- Written by a program of this session (wip/tools/hprint.py), which drives the kit's print; not print.sh's own output.
import Derived.Test.YtdifaomkaekglaaHR0
import Derived.Test.YtdifaomkaekglaaHR1
import Derived.Test.YtdifaomkaekglaaHR2
namespace Go.Proofs.Ytdifaomkaekglaa.HR
open Go.RowKit Go.Proofs.YtdifaomkaekglaaW.PrintWords Go.Proofs.YtdifaomkaekglaaW.PrintLast Go.Proofs.YtdifaomkaekglaaW.PrintMore
attribute [local go_sem] max2_int min2_int max_two min_two max_three min_three max_four min_four   -- for this text's walks alone
set_option linter.unusedVariables false
set_option linter.unusedSimpArgs false

/-! ### scrimlaw18_FlexAlike: function 7 -/
mutual
def scrimlaw18_FlexAlike.l0 : Nat → List (S48) → List Int → List (S48) → Int → Int → Option (Bool)
  | 0, _, _, _, _, _ => none
  | k + 1, x0, x5, x27, x28, x29 => if x29 < x28 then (if 0 ≤ x29 then (if x29 < (x27.length : Int) then (if ((rd_T48 x27 x29).f2) = 0 then (if ((rd_T48 x27 x29).f3) = 0 then (if x29 < (x5.length : Int) then (scrimlaw18_FlexAlike.j1 k x0 x5 x29 x27 x28 x29 ((rd x5 x29) != ((rd_T48 x27 x29).f0)) ((rd_T48 x27 x29).f0) ((rd_T48 x27 x29).f1) ((rd_T48 x27 x29).f2) ((rd_T48 x27 x29).f3)) else (none)) else (scrimlaw18_FlexAlike.j1 k x0 x5 x29 x27 x28 x29 false ((rd_T48 x27 x29).f0) ((rd_T48 x27 x29).f1) ((rd_T48 x27 x29).f2) ((rd_T48 x27 x29).f3))) else (scrimlaw18_FlexAlike.j1 k x0 x5 x29 x27 x28 x29 false ((rd_T48 x27 x29).f0) ((rd_T48 x27 x29).f1) ((rd_T48 x27 x29).f2) ((rd_T48 x27 x29).f3))) else (none)) else (none)) else (some true)
def scrimlaw18_FlexAlike.j1 : Nat → List (S48) → List Int → Int → List (S48) → Int → Int → Bool → Int → Int → Int → Int → Option (Bool)
  | 0, _, _, _, _, _, _, _, _, _, _, _ => none
  | k + 1, x0, x5, x7, x27, x28, x29, x50, x184000, x184001, x184002, x184003 => if x50 = true then (some false) else (scrimlaw18_FlexAlike.l1 k x0 x5 x7 x27 x28 x29 x0 (x0.length : Int) 0 x184000 x184001 x184002 x184003)
def scrimlaw18_FlexAlike.l1 : Nat → List (S48) → List Int → Int → List (S48) → Int → Int → List (S48) → Int → Int → Int → Int → Int → Int → Option (Bool)
  | 0, _, _, _, _, _, _, _, _, _, _, _, _, _ => none
  | k + 1, x0, x5, x7, x27, x28, x29, x51, x52, x53, x184000, x184001, x184002, x184003 => if x53 < x52 then (if 0 ≤ x53 then (if x53 < (x51.length : Int) then (if x184000 = ((rd_T48 x51 x53).f0) then (if x184002 = ((rd_T48 x51 x53).f2) then (if x184003 = ((rd_T48 x51 x53).f3) then (if 0 ≤ x7 then (if x7 < (x5.length : Int) then (if x53 < (x5.length : Int) then (scrimlaw18_FlexAlike.j3 k x0 x5 x7 x53 x27 x28 x29 x51 x52 x53 ((rd x5 x7) != (rd x5 x53)) x184000 x184001 x184002 x184003 ((rd_T48 x51 x53).f0) ((rd_T48 x51 x53).f1) ((rd_T48 x51 x53).f2) ((rd_T48 x51 x53).f3)) else (none)) else (none)) else (none)) else (scrimlaw18_FlexAlike.j3 k x0 x5 x7 x53 x27 x28 x29 x51 x52 x53 false x184000 x184001 x184002 x184003 ((rd_T48 x51 x53).f0) ((rd_T48 x51 x53).f1) ((rd_T48 x51 x53).f2) ((rd_T48 x51 x53).f3))) else (scrimlaw18_FlexAlike.j3 k x0 x5 x7 x53 x27 x28 x29 x51 x52 x53 false x184000 x184001 x184002 x184003 ((rd_T48 x51 x53).f0) ((rd_T48 x51 x53).f1) ((rd_T48 x51 x53).f2) ((rd_T48 x51 x53).f3))) else (scrimlaw18_FlexAlike.j3 k x0 x5 x7 x53 x27 x28 x29 x51 x52 x53 false x184000 x184001 x184002 x184003 ((rd_T48 x51 x53).f0) ((rd_T48 x51 x53).f1) ((rd_T48 x51 x53).f2) ((rd_T48 x51 x53).f3))) else (none)) else (none)) else (scrimlaw18_FlexAlike.l0 k x0 x5 x27 x28 (wrap64 (x29 + 1)))
def scrimlaw18_FlexAlike.j3 : Nat → List (S48) → List Int → Int → Int → List (S48) → Int → Int → List (S48) → Int → Int → Bool → Int → Int → Int → Int → Int → Int → Int → Int → Option (Bool)
  | 0, _, _, _, _, _, _, _, _, _, _, _, _, _, _, _, _, _, _, _ => none
  | k + 1, x0, x5, x7, x9, x27, x28, x29, x51, x52, x53, x87, x184000, x184001, x184002, x184003, x187000, x187001, x187002, x187003 => if x87 = true then (some false) else (if x184000 = x187000 then (if x184002 ≥ x187002 then (if x184003 ≤ x187003 then (if 0 ≤ x7 then (if x7 < (x5.length : Int) then (if 0 ≤ x9 then (if x9 < (x5.length : Int) then (if (rd x5 x7) < (rd x5 x9) then (some false) else (scrimlaw18_FlexAlike.l1 k x0 x5 x7 x27 x28 x29 x51 x52 (wrap64 (x53 + 1)) x184000 x184001 x184002 x184003)) else (none)) else (none)) else (none)) else (none)) else (scrimlaw18_FlexAlike.l1 k x0 x5 x7 x27 x28 x29 x51 x52 (wrap64 (x53 + 1)) x184000 x184001 x184002 x184003)) else (scrimlaw18_FlexAlike.l1 k x0 x5 x7 x27 x28 x29 x51 x52 (wrap64 (x53 + 1)) x184000 x184001 x184002 x184003)) else (scrimlaw18_FlexAlike.l1 k x0 x5 x7 x27 x28 x29 x51 x52 (wrap64 (x53 + 1)) x184000 x184001 x184002 x184003))
end
def scrimlaw18_FlexAlike.f (k : Nat) (l0 : List (S48)) (a1 : Int) : Option (Bool) := (scrimlaw18_awake.f k).bind fun t176 => (if t176 = true then ((scrimlaw18_small.f k l0).bind fun t177 => (if t177 = true then ((flex_Share.f k l0 a1).bind fun bt178 => (if (bt178.1.length : Int) = (l0.length : Int) then (scrimlaw18_FlexAlike.l0 k l0 bt178.1 l0 (l0.length : Int) 0) else (some false))) else (some true))) else (some false))
theorem scrimlaw18_FlexAlike.mono_l : ∀ k, (∀ y0 y1 y2 y3 y4, LeO (scrimlaw18_FlexAlike.l0 k y0 y1 y2 y3 y4) (scrimlaw18_FlexAlike.l0 (k + 1) y0 y1 y2 y3 y4)) ∧ (∀ y0 y1 y2 y3 y4 y5 y6 y7 y8 y9 y10, LeO (scrimlaw18_FlexAlike.j1 k y0 y1 y2 y3 y4 y5 y6 y7 y8 y9 y10) (scrimlaw18_FlexAlike.j1 (k + 1) y0 y1 y2 y3 y4 y5 y6 y7 y8 y9 y10)) ∧ (∀ y0 y1 y2 y3 y4 y5 y6 y7 y8 y9 y10 y11 y12, LeO (scrimlaw18_FlexAlike.l1 k y0 y1 y2 y3 y4 y5 y6 y7 y8 y9 y10 y11 y12) (scrimlaw18_FlexAlike.l1 (k + 1) y0 y1 y2 y3 y4 y5 y6 y7 y8 y9 y10 y11 y12)) ∧ (∀ y0 y1 y2 y3 y4 y5 y6 y7 y8 y9 y10 y11 y12 y13 y14 y15 y16 y17 y18, LeO (scrimlaw18_FlexAlike.j3 k y0 y1 y2 y3 y4 y5 y6 y7 y8 y9 y10 y11 y12 y13 y14 y15 y16 y17 y18) (scrimlaw18_FlexAlike.j3 (k + 1) y0 y1 y2 y3 y4 y5 y6 y7 y8 y9 y10 y11 y12 y13 y14 y15 y16 y17 y18))
  | 0 => ⟨fun _ _ _ _ _ r h => by simp [scrimlaw18_FlexAlike.l0] at h, fun _ _ _ _ _ _ _ _ _ _ _ r h => by simp [scrimlaw18_FlexAlike.j1] at h, fun _ _ _ _ _ _ _ _ _ _ _ _ _ r h => by simp [scrimlaw18_FlexAlike.l1] at h, fun _ _ _ _ _ _ _ _ _ _ _ _ _ _ _ _ _ _ _ r h => by simp [scrimlaw18_FlexAlike.j3] at h⟩
  | k + 1 => by
    obtain ⟨ih0, ih1, ih2, ih3⟩ := scrimlaw18_FlexAlike.mono_l k
    refine ⟨?_, ?_, ?_, ?_⟩
    · intro y0 y1 y2 y3 y4
      unfold scrimlaw18_FlexAlike.l0
      repeat' first
      | (with_reducible exact ih0 _ _ _ _ _)
      | (with_reducible exact ih1 _ _ _ _ _ _ _ _ _ _ _)
      | (with_reducible exact ih2 _ _ _ _ _ _ _ _ _ _ _ _ _)
      | (with_reducible exact ih3 _ _ _ _ _ _ _ _ _ _ _ _ _ _ _ _ _ _ _)
      | (with_reducible exact flex_Share.mono _ _ _)
      | (with_reducible exact scrimlaw18_awake.mono _)
      | (with_reducible exact scrimlaw18_small.mono _ _)
      | (with_reducible exact LeO.refl _)
      | (with_reducible exact LeO.none _)
      | (with_reducible refine LeO.ite ?_ ?_)
      | (with_reducible refine LeO.bind ?_ (fun _ => ?_))
      | exact ih0 _ _ _ _ _
      | exact ih1 _ _ _ _ _ _ _ _ _ _ _
      | exact ih2 _ _ _ _ _ _ _ _ _ _ _ _ _
      | exact ih3 _ _ _ _ _ _ _ _ _ _ _ _ _ _ _ _ _ _ _
      | exact flex_Share.mono _ _ _
      | exact scrimlaw18_awake.mono _
      | exact scrimlaw18_small.mono _ _
      | exact LeO.none _
      | refine LeO.ite ?_ ?_
      | refine LeO.bind ?_ (fun _ => ?_)
    · intro y0 y1 y2 y3 y4 y5 y6 y7 y8 y9 y10
      unfold scrimlaw18_FlexAlike.j1
      repeat' first
      | (with_reducible exact ih0 _ _ _ _ _)
      | (with_reducible exact ih1 _ _ _ _ _ _ _ _ _ _ _)
      | (with_reducible exact ih2 _ _ _ _ _ _ _ _ _ _ _ _ _)
      | (with_reducible exact ih3 _ _ _ _ _ _ _ _ _ _ _ _ _ _ _ _ _ _ _)
      | (with_reducible exact flex_Share.mono _ _ _)
      | (with_reducible exact scrimlaw18_awake.mono _)
      | (with_reducible exact scrimlaw18_small.mono _ _)
      | (with_reducible exact LeO.refl _)
      | (with_reducible exact LeO.none _)
      | (with_reducible refine LeO.ite ?_ ?_)
      | (with_reducible refine LeO.bind ?_ (fun _ => ?_))
      | exact ih0 _ _ _ _ _
      | exact ih1 _ _ _ _ _ _ _ _ _ _ _
      | exact ih2 _ _ _ _ _ _ _ _ _ _ _ _ _
      | exact ih3 _ _ _ _ _ _ _ _ _ _ _ _ _ _ _ _ _ _ _
      | exact flex_Share.mono _ _ _
      | exact scrimlaw18_awake.mono _
      | exact scrimlaw18_small.mono _ _
      | exact LeO.none _
      | refine LeO.ite ?_ ?_
      | refine LeO.bind ?_ (fun _ => ?_)
    · intro y0 y1 y2 y3 y4 y5 y6 y7 y8 y9 y10 y11 y12
      unfold scrimlaw18_FlexAlike.l1
      repeat' first
      | (with_reducible exact ih0 _ _ _ _ _)
      | (with_reducible exact ih1 _ _ _ _ _ _ _ _ _ _ _)
      | (with_reducible exact ih2 _ _ _ _ _ _ _ _ _ _ _ _ _)
      | (with_reducible exact ih3 _ _ _ _ _ _ _ _ _ _ _ _ _ _ _ _ _ _ _)
      | (with_reducible exact flex_Share.mono _ _ _)
      | (with_reducible exact scrimlaw18_awake.mono _)
      | (with_reducible exact scrimlaw18_small.mono _ _)
      | (with_reducible exact LeO.refl _)
      | (with_reducible exact LeO.none _)
      | (with_reducible refine LeO.ite ?_ ?_)
      | (with_reducible refine LeO.bind ?_ (fun _ => ?_))
      | exact ih0 _ _ _ _ _
      | exact ih1 _ _ _ _ _ _ _ _ _ _ _
      | exact ih2 _ _ _ _ _ _ _ _ _ _ _ _ _
      | exact ih3 _ _ _ _ _ _ _ _ _ _ _ _ _ _ _ _ _ _ _
      | exact flex_Share.mono _ _ _
      | exact scrimlaw18_awake.mono _
      | exact scrimlaw18_small.mono _ _
      | exact LeO.none _
      | refine LeO.ite ?_ ?_
      | refine LeO.bind ?_ (fun _ => ?_)
    · intro y0 y1 y2 y3 y4 y5 y6 y7 y8 y9 y10 y11 y12 y13 y14 y15 y16 y17 y18
      unfold scrimlaw18_FlexAlike.j3
      repeat' first
      | (with_reducible exact ih0 _ _ _ _ _)
      | (with_reducible exact ih1 _ _ _ _ _ _ _ _ _ _ _)
      | (with_reducible exact ih2 _ _ _ _ _ _ _ _ _ _ _ _ _)
      | (with_reducible exact ih3 _ _ _ _ _ _ _ _ _ _ _ _ _ _ _ _ _ _ _)
      | (with_reducible exact flex_Share.mono _ _ _)
      | (with_reducible exact scrimlaw18_awake.mono _)
      | (with_reducible exact scrimlaw18_small.mono _ _)
      | (with_reducible exact LeO.refl _)
      | (with_reducible exact LeO.none _)
      | (with_reducible refine LeO.ite ?_ ?_)
      | (with_reducible refine LeO.bind ?_ (fun _ => ?_))
      | exact ih0 _ _ _ _ _
      | exact ih1 _ _ _ _ _ _ _ _ _ _ _
      | exact ih2 _ _ _ _ _ _ _ _ _ _ _ _ _
      | exact ih3 _ _ _ _ _ _ _ _ _ _ _ _ _ _ _ _ _ _ _
      | exact flex_Share.mono _ _ _
      | exact scrimlaw18_awake.mono _
      | exact scrimlaw18_small.mono _ _
      | exact LeO.none _
      | refine LeO.ite ?_ ?_
      | refine LeO.bind ?_ (fun _ => ?_)
theorem scrimlaw18_FlexAlike.mono : ∀ a0 a1 k, LeO (scrimlaw18_FlexAlike.f k a0 a1) (scrimlaw18_FlexAlike.f (k + 1) a0 a1) := by
  intro a0 a1 k
  obtain ⟨ih0, ih1, ih2, ih3⟩ := scrimlaw18_FlexAlike.mono_l k
  unfold scrimlaw18_FlexAlike.f
  repeat' first
      | (with_reducible exact ih0 _ _ _ _ _)
      | (with_reducible exact ih1 _ _ _ _ _ _ _ _ _ _ _)
      | (with_reducible exact ih2 _ _ _ _ _ _ _ _ _ _ _ _ _)
      | (with_reducible exact ih3 _ _ _ _ _ _ _ _ _ _ _ _ _ _ _ _ _ _ _)
      | (with_reducible exact flex_Share.mono _ _ _)
      | (with_reducible exact scrimlaw18_awake.mono _)
      | (with_reducible exact scrimlaw18_small.mono _ _)
      | (with_reducible exact LeO.refl _)
      | (with_reducible exact LeO.none _)
      | (with_reducible refine LeO.ite ?_ ?_)
      | (with_reducible refine LeO.bind ?_ (fun _ => ?_))
      | exact ih0 _ _ _ _ _
      | exact ih1 _ _ _ _ _ _ _ _ _ _ _
      | exact ih2 _ _ _ _ _ _ _ _ _ _ _ _ _
      | exact ih3 _ _ _ _ _ _ _ _ _ _ _ _ _ _ _ _ _ _ _
      | exact flex_Share.mono _ _ _
      | exact scrimlaw18_awake.mono _
      | exact scrimlaw18_small.mono _ _
      | exact LeO.none _
      | refine LeO.ite ?_ ?_
      | refine LeO.bind ?_ (fun _ => ?_)
set_option maxHeartbeats 8000000 in
set_option maxRecDepth 100000 in
theorem scrimlaw18_FlexAlike.calls (k : Nat) (A0 : Option Addr) (c0 : Nat) (l0 : List (S48)) (a1 : Int) (r : Bool) (w : World) (hr0 : Kd.C k48 w A0 l0.length l0) (hc0 : l0.length ≤ c0) (h : scrimlaw18_FlexAlike.f k l0 a1 = some r) :
    Calls Try.prog 7 #[.slice A0 l0.length c0, .int .i64 a1] w fun e w' => e = .returned (.bool r) ∧ Below w.heap.size w w' := by
  have hu48 := Try.underlying48
  have HR0 := Aside0.mk hr0
  have HC0 := Aside0.mk hc0
  clear hr0 hc0
  have HB := Aside0.mk (Below.refl w.heap.size w)
  have H : ((scrimlaw18_awake.f k).bind fun t176 => (if t176 = true then ((scrimlaw18_small.f k l0).bind fun t177 => (if t177 = true then ((flex_Share.f k l0 a1).bind fun bt178 => (if (bt178.1.length : Int) = (l0.length : Int) then (scrimlaw18_FlexAlike.l0 k l0 bt178.1 l0 (l0.length : Int) 0) else (some false))) else (some true))) else (some false))) = some r := h
  clear h
  replace H := Option.bind_eq_some_iff.mp H
  obtain ⟨t176, A30, H⟩ := H
  replace H : (if t176 = true then ((scrimlaw18_small.f k l0).bind fun t177 => (if t177 = true then ((flex_Share.f k l0 a1).bind fun bt178 => (if (bt178.1.length : Int) = (l0.length : Int) then (scrimlaw18_FlexAlike.l0 k l0 bt178.1 l0 (l0.length : Int) 0) else (some false))) else (some true))) else (some false)) = some r := H
  have A3 := Aside0.mk A30
  clear A30
  by_cases c4 : t176 = true
  · subst c4
    have H1 : ((scrimlaw18_small.f k l0).bind fun t177 => (if t177 = true then ((flex_Share.f k l0 a1).bind fun bt178 => (if (bt178.1.length : Int) = (l0.length : Int) then (scrimlaw18_FlexAlike.l0 k l0 bt178.1 l0 (l0.length : Int) 0) else (some false))) else (some true))) = some r := by rw [if_pos rfl] at H; exact H
    clear H
    have H := H1
    clear H1
    replace H := Option.bind_eq_some_iff.mp H
    obtain ⟨t177, A50, H⟩ := H
    replace H : (if t177 = true then ((flex_Share.f k l0 a1).bind fun bt178 => (if (bt178.1.length : Int) = (l0.length : Int) then (scrimlaw18_FlexAlike.l0 k l0 bt178.1 l0 (l0.length : Int) 0) else (some false))) else (some true)) = some r := H
    have A5 := Aside0.mk A50
    clear A50
    by_cases c6 : t177 = true
    · subst c6
      have H1 : ((flex_Share.f k l0 a1).bind fun bt178 => (if (bt178.1.length : Int) = (l0.length : Int) then (scrimlaw18_FlexAlike.l0 k l0 bt178.1 l0 (l0.length : Int) 0) else (some false))) = some r := by rw [if_pos rfl] at H; exact H
      clear H
      have H := H1
      clear H1
      replace H := Option.bind_eq_some_iff.mp H
      obtain ⟨⟨t178, t179⟩, A70, H⟩ := H
      replace H : (if (t178.length : Int) = (l0.length : Int) then (scrimlaw18_FlexAlike.l0 k l0 t178 l0 (l0.length : Int) 0) else (some false)) = some r := H
      have A7 := Aside0.mk A70
      clear A70
      by_cases c8 : (t178.length : Int) = (l0.length : Int)
      · rw [if_pos c8] at H
        have c8b0 : ((t178.length : Int) == (l0.length : Int)) = true := beq_iff_eq.mpr c8
        have c8b1 : ((t178.length : Int) != (l0.length : Int)) = false := bne_eq_false_iff_eq.mpr c8
        have c8b2 : (t178.length == l0.length) = true := by first | simpa using c8 | (simp at c8 ⊢; omega)
        clear c8
        have H' := Aside0.mk H
        clear H
        go_enter Try.func7, Try.ntmps7
        go_wp2_with (first | (go_at_call 14; (with_reducible refine (scrimlaw18_awake.calls k  true _ A3.out).mono ?_); rintro e w9 ⟨rfl, hb⟩; have n0_ := Aside0.mk (below_step (by repeat (first | (with_reducible first | exact HB.out | apply below_alloc | apply pw_below_drewN | apply below_drew1) | exact HB.out)) hb); clear HB; have HB := n0_; clear n0_; (try clear hb); (try clear hb2); (try clear hk); (try clear hi)) | (go_at_call 24; (with_reducible refine (scrimlaw18_small.calls k _ _ l0 true _ ?side1 ?side2 A5.out).mono ?_); (case side1 => repeat (first | exact (Kd.C_below HR0.out HB.out) | (with_reducible refine Kd.C_alloc ?_ _) | (with_reducible refine Kd.C_drewN ?_ _) | (with_reducible refine Kd.C_drew ?_))); (case side2 => exact HC0.out); rintro e w10 ⟨rfl, hb⟩; have n0_ := Aside0.mk (below_step (by repeat (first | (with_reducible first | exact HB.out | apply below_alloc | apply pw_below_drewN | apply below_drew1) | exact HB.out)) hb); clear HB; have HB := n0_; clear n0_; (try clear hb); (try clear hb2); (try clear hk); (try clear hi)) | (go_at_call 15; (with_reducible refine (flex_Share.calls k _ _ l0 a1 t178 t179 _ ?side1 ?side2 A7.out).mono ?_); (case side1 => repeat (first | exact (Kd.C_below HR0.out HB.out) | (with_reducible refine Kd.C_alloc ?_ _) | (with_reducible refine Kd.C_drewN ?_ _) | (with_reducible refine Kd.C_drew ?_))); (case side2 => exact HC0.out); rintro e w11 ⟨v180, rfl, ho0, hb⟩; have n0_ := Aside0.mk (Kd.R_lower ho0 (below_size (by repeat (first | (with_reducible first | exact HB.out | apply below_alloc | apply pw_below_drewN | apply below_drew1) | exact HB.out)))); have n1_ := Aside0.mk (below_step (by repeat (first | (with_reducible first | exact HB.out | apply below_alloc | apply pw_below_drewN | apply below_drew1) | exact HB.out)) hb); clear HB; have HO181 := n0_; have HB := n1_; clear n0_ n1_; (try clear hb); (try clear hb2); (try clear hk); (try clear hi); (try clear ho0); obtain ⟨Ao12, co12, eo12⟩ := Kd.R_slice HO181.out; subst eo12))
        repeat (go_quiet (first | (go_at_call 14; (with_reducible refine (scrimlaw18_awake.calls k  true _ A3.out).mono ?_); rintro e w9 ⟨rfl, hb⟩; have n0_ := Aside0.mk (below_step (by repeat (first | (with_reducible first | exact HB.out | apply below_alloc | apply pw_below_drewN | apply below_drew1) | exact HB.out)) hb); clear HB; have HB := n0_; clear n0_; (try clear hb); (try clear hb2); (try clear hk); (try clear hi)) | (go_at_call 24; (with_reducible refine (scrimlaw18_small.calls k _ _ l0 true _ ?side1 ?side2 A5.out).mono ?_); (case side1 => repeat (first | exact (Kd.C_below HR0.out HB.out) | (with_reducible refine Kd.C_alloc ?_ _) | (with_reducible refine Kd.C_drewN ?_ _) | (with_reducible refine Kd.C_drew ?_))); (case side2 => exact HC0.out); rintro e w10 ⟨rfl, hb⟩; have n0_ := Aside0.mk (below_step (by repeat (first | (with_reducible first | exact HB.out | apply below_alloc | apply pw_below_drewN | apply below_drew1) | exact HB.out)) hb); clear HB; have HB := n0_; clear n0_; (try clear hb); (try clear hb2); (try clear hk); (try clear hi)) | (go_at_call 15; (with_reducible refine (flex_Share.calls k _ _ l0 a1 t178 t179 _ ?side1 ?side2 A7.out).mono ?_); (case side1 => repeat (first | exact (Kd.C_below HR0.out HB.out) | (with_reducible refine Kd.C_alloc ?_ _) | (with_reducible refine Kd.C_drewN ?_ _) | (with_reducible refine Kd.C_drew ?_))); (case side2 => exact HC0.out); rintro e w11 ⟨v180, rfl, ho0, hb⟩; have n0_ := Aside0.mk (Kd.R_lower ho0 (below_size (by repeat (first | (with_reducible first | exact HB.out | apply below_alloc | apply pw_below_drewN | apply below_drew1) | exact HB.out)))); have n1_ := Aside0.mk (below_step (by repeat (first | (with_reducible first | exact HB.out | apply below_alloc | apply pw_below_drewN | apply below_drew1) | exact HB.out)) hb); clear HB; have HO181 := n0_; have HB := n1_; clear n0_ n1_; (try clear hb); (try clear hb2); (try clear hk); (try clear hi); (try clear ho0); obtain ⟨Ao12, co12, eo12⟩ := Kd.R_slice HO181.out; subst eo12)); try go_wp2_with (first | (go_at_call 14; (with_reducible refine (scrimlaw18_awake.calls k  true _ A3.out).mono ?_); rintro e w9 ⟨rfl, hb⟩; have n0_ := Aside0.mk (below_step (by repeat (first | (with_reducible first | exact HB.out | apply below_alloc | apply pw_below_drewN | apply below_drew1) | exact HB.out)) hb); clear HB; have HB := n0_; clear n0_; (try clear hb); (try clear hb2); (try clear hk); (try clear hi)) | (go_at_call 24; (with_reducible refine (scrimlaw18_small.calls k _ _ l0 true _ ?side1 ?side2 A5.out).mono ?_); (case side1 => repeat (first | exact (Kd.C_below HR0.out HB.out) | (with_reducible refine Kd.C_alloc ?_ _) | (with_reducible refine Kd.C_drewN ?_ _) | (with_reducible refine Kd.C_drew ?_))); (case side2 => exact HC0.out); rintro e w10 ⟨rfl, hb⟩; have n0_ := Aside0.mk (below_step (by repeat (first | (with_reducible first | exact HB.out | apply below_alloc | apply pw_below_drewN | apply below_drew1) | exact HB.out)) hb); clear HB; have HB := n0_; clear n0_; (try clear hb); (try clear hb2); (try clear hk); (try clear hi)) | (go_at_call 15; (with_reducible refine (flex_Share.calls k _ _ l0 a1 t178 t179 _ ?side1 ?side2 A7.out).mono ?_); (case side1 => repeat (first | exact (Kd.C_below HR0.out HB.out) | (with_reducible refine Kd.C_alloc ?_ _) | (with_reducible refine Kd.C_drewN ?_ _) | (with_reducible refine Kd.C_drew ?_))); (case side2 => exact HC0.out); rintro e w11 ⟨v180, rfl, ho0, hb⟩; have n0_ := Aside0.mk (Kd.R_lower ho0 (below_size (by repeat (first | (with_reducible first | exact HB.out | apply below_alloc | apply pw_below_drewN | apply below_drew1) | exact HB.out)))); have n1_ := Aside0.mk (below_step (by repeat (first | (with_reducible first | exact HB.out | apply below_alloc | apply pw_below_drewN | apply below_drew1) | exact HB.out)) hb); clear HB; have HO181 := n0_; have HB := n1_; clear n0_ n1_; (try clear hb); (try clear hb2); (try clear hk); (try clear hi); (try clear ho0); obtain ⟨Ao12, co12, eo12⟩ := Kd.R_slice HO181.out; subst eo12)))
        go_loopg [29] k (fun kq v29 w' => ∃ (x29_1 : Int), v29 = .int .i64 x29_1 ∧ Aside0 (scrimlaw18_FlexAlike.l0 kq l0 t178 l0 (l0.length : Int) x29_1 = some r) ∧ Aside0 (kq ≤ k) ∧ Aside0 (Kd.R (Kd.int .i64) 2 w' w.heap.size (fun _ => True) (.slice Ao12 t178.length co12) t178) ∧ Aside0 (Below w.heap.size w w'))
        case atStart => exact ⟨(0), (by first | rfl | (simp; done) | (simp [*]; done)), H', ⟨Nat.le_refl _⟩, ⟨by (with_reducible repeat (first | apply Kd.R_alloc | apply Kd.R_drewN | apply Kd.R_drew)); exact HO181.out⟩, ⟨by repeat (first | (with_reducible first | exact HB.out | apply below_alloc | apply pw_below_drewN | apply below_drew1) | exact HB.out)⟩⟩
        case round =>
          clear H'
          try clear p2
          try clear c4
          try clear c6
          try clear c7
          try clear c8
          try clear c8b0
          try clear c8b1
          try clear c8b2
          obtain ⟨x29_1, rfl, HA, HK1, HO_5, HB⟩ := hrel
          cases gk with
          | zero => exact absurd HA.out (by simp [scrimlaw18_FlexAlike.l0])
          | succ k1 =>
            have H := HA.out
            clear HA
            simp only [scrimlaw18_FlexAlike.l0] at H
            by_cases c13 : x29_1 < (l0.length : Int)
            · rw [if_pos c13] at H
              have c13b0 : decide (x29_1 < (l0.length : Int)) = true := decide_eq_true c13
              clear c13
              by_cases c14 : 0 ≤ x29_1
              · rw [if_pos c14] at H
                have c14b0 : decide (0 ≤ x29_1) = true := decide_eq_true c14
                clear c14
                by_cases c15 : x29_1 < (l0.length : Int)
                · rw [if_pos c15] at H
                  have c15b0 : decide (x29_1 < (l0.length : Int)) = true := decide_eq_true c15
                  clear c15
                  have HC16 := Aside0.mk H
                  clear H
                  have p182 : 0 ≤ (x29_1 : Int) := of_decide_eq_true (by first | (with_reducible assumption) | assumption)
                  have q182 : x29_1 < (l0.length : Int) := of_decide_eq_true (by first | (with_reducible assumption) | assumption)
                  obtain ⟨ad182, e182, hx182_0, hx182_1, hx182_2, hx182_3⟩ := at_T48 HR0.out x29_1 p182 q182
                  cases e182
                  replace hx182_0 := (HB.out.cell (World.block_lt_of_cell? w _ hx182_0)).trans hx182_0
                  replace hx182_1 := (HB.out.cell (World.block_lt_of_cell? w _ hx182_1)).trans hx182_1
                  replace hx182_2 := (HB.out.cell (World.block_lt_of_cell? w _ hx182_2)).trans hx182_2
                  replace hx182_3 := (HB.out.cell (World.block_lt_of_cell? w _ hx182_3)).trans hx182_3
                  replace p182 := eq_true p182
                  replace q182 := eq_true q182
                  go_upto_region 11 with (first | ((with_reducible refine gate_dst (N := 8) rfl ?_); refine box_event ?hg (N := 8) ?hd (cs := #[.int .i64 0, .int .i64 0, .int .i64 0, .int .i64 0]) (t := 48) ?hr ?_; (case hd => rfl); (case hg => rfl); (case hr => first | (go_simp; done) | (go_simp; rfl)); intro gb183 hg w17 hbox hb; have n0_ := Aside0.mk (Kd.R_below (by (with_reducible repeat (first | apply Kd.R_alloc | apply Kd.R_drewN | apply Kd.R_drew)); exact HO_5.out) hb); have n1_ := Aside0.mk (below_step (by repeat (first | (with_reducible first | exact HB.out | apply below_alloc | apply pw_below_drewN | apply below_drew1) | exact HB.out)) hb); have n2_ := Aside0.mk (hbox); have n3_ := Aside0.mk ((by rw [hg]; exact (below_size (by repeat (first | (with_reducible first | exact HB.out | apply below_alloc | apply pw_below_drewN | apply below_drew1) | exact HB.out))) : w.heap.size ≤ gb183)); have n4_ := Aside0.mk ((by rw [hg]; exact (below_size (by repeat (first | (with_reducible first | exact HB.out | apply below_alloc | apply pw_below_drewN | apply below_drew1) | exact HB.out))) : w.heap.size ≤ gb183)); clear HO_5; clear HB; have HO_5 := n0_; have HB := n1_; have BK183 := n2_; have GW183 := n3_; have GE183 := n4_; clear n0_ n1_ n2_ n3_ n4_; clear hb hbox hg; have hcz18_0 : w17.cell? ⟨gb183, 0, none⟩ = some (.int .i64 0) := (blk_cell BK183.out 0).trans rfl; have hcz18_1 : w17.cell? ⟨gb183, 1, none⟩ = some (.int .i64 0) := (blk_cell BK183.out 1).trans rfl; have hcz18_2 : w17.cell? ⟨gb183, 2, none⟩ = some (.int .i64 0) := (blk_cell BK183.out 2).trans rfl; have hcz18_3 : w17.cell? ⟨gb183, 3, none⟩ = some (.int .i64 0) := (blk_cell BK183.out 3).trans rfl; have hfz18_0 := blk_frozen BK183.out 0; have hfz18_1 := blk_frozen BK183.out 1; have hfz18_2 := blk_frozen BK183.out 2; have hfz18_3 := blk_frozen BK183.out 3))
                  repeat (go_quiet (first | ((with_reducible refine gate_dst (N := 8) rfl ?_); refine box_event ?hg (N := 8) ?hd (cs := #[.int .i64 0, .int .i64 0, .int .i64 0, .int .i64 0]) (t := 48) ?hr ?_; (case hd => rfl); (case hg => rfl); (case hr => first | (go_simp; done) | (go_simp; rfl)); intro gb183 hg w17 hbox hb; have n0_ := Aside0.mk (Kd.R_below (by (with_reducible repeat (first | apply Kd.R_alloc | apply Kd.R_drewN | apply Kd.R_drew)); exact HO_5.out) hb); have n1_ := Aside0.mk (below_step (by repeat (first | (with_reducible first | exact HB.out | apply below_alloc | apply pw_below_drewN | apply below_drew1) | exact HB.out)) hb); have n2_ := Aside0.mk (hbox); have n3_ := Aside0.mk ((by rw [hg]; exact (below_size (by repeat (first | (with_reducible first | exact HB.out | apply below_alloc | apply pw_below_drewN | apply below_drew1) | exact HB.out))) : w.heap.size ≤ gb183)); have n4_ := Aside0.mk ((by rw [hg]; exact (below_size (by repeat (first | (with_reducible first | exact HB.out | apply below_alloc | apply pw_below_drewN | apply below_drew1) | exact HB.out))) : w.heap.size ≤ gb183)); clear HO_5; clear HB; have HO_5 := n0_; have HB := n1_; have BK183 := n2_; have GW183 := n3_; have GE183 := n4_; clear n0_ n1_ n2_ n3_ n4_; clear hb hbox hg; have hcz18_0 : w17.cell? ⟨gb183, 0, none⟩ = some (.int .i64 0) := (blk_cell BK183.out 0).trans rfl; have hcz18_1 : w17.cell? ⟨gb183, 1, none⟩ = some (.int .i64 0) := (blk_cell BK183.out 1).trans rfl; have hcz18_2 : w17.cell? ⟨gb183, 2, none⟩ = some (.int .i64 0) := (blk_cell BK183.out 2).trans rfl; have hcz18_3 : w17.cell? ⟨gb183, 3, none⟩ = some (.int .i64 0) := (blk_cell BK183.out 3).trans rfl; have hfz18_0 := blk_frozen BK183.out 0; have hfz18_1 := blk_frozen BK183.out 1; have hfz18_2 := blk_frozen BK183.out 2; have hfz18_3 := blk_frozen BK183.out 3)); go_upto_region 11 with (first | ((with_reducible refine gate_dst (N := 8) rfl ?_); refine box_event ?hg (N := 8) ?hd (cs := #[.int .i64 0, .int .i64 0, .int .i64 0, .int .i64 0]) (t := 48) ?hr ?_; (case hd => rfl); (case hg => rfl); (case hr => first | (go_simp; done) | (go_simp; rfl)); intro gb183 hg w17 hbox hb; have n0_ := Aside0.mk (Kd.R_below (by (with_reducible repeat (first | apply Kd.R_alloc | apply Kd.R_drewN | apply Kd.R_drew)); exact HO_5.out) hb); have n1_ := Aside0.mk (below_step (by repeat (first | (with_reducible first | exact HB.out | apply below_alloc | apply pw_below_drewN | apply below_drew1) | exact HB.out)) hb); have n2_ := Aside0.mk (hbox); have n3_ := Aside0.mk ((by rw [hg]; exact (below_size (by repeat (first | (with_reducible first | exact HB.out | apply below_alloc | apply pw_below_drewN | apply below_drew1) | exact HB.out))) : w.heap.size ≤ gb183)); have n4_ := Aside0.mk ((by rw [hg]; exact (below_size (by repeat (first | (with_reducible first | exact HB.out | apply below_alloc | apply pw_below_drewN | apply below_drew1) | exact HB.out))) : w.heap.size ≤ gb183)); clear HO_5; clear HB; have HO_5 := n0_; have HB := n1_; have BK183 := n2_; have GW183 := n3_; have GE183 := n4_; clear n0_ n1_ n2_ n3_ n4_; clear hb hbox hg; have hcz18_0 : w17.cell? ⟨gb183, 0, none⟩ = some (.int .i64 0) := (blk_cell BK183.out 0).trans rfl; have hcz18_1 : w17.cell? ⟨gb183, 1, none⟩ = some (.int .i64 0) := (blk_cell BK183.out 1).trans rfl; have hcz18_2 : w17.cell? ⟨gb183, 2, none⟩ = some (.int .i64 0) := (blk_cell BK183.out 2).trans rfl; have hcz18_3 : w17.cell? ⟨gb183, 3, none⟩ = some (.int .i64 0) := (blk_cell BK183.out 3).trans rfl; have hfz18_0 := blk_frozen BK183.out 0; have hfz18_1 := blk_frozen BK183.out 1; have hfz18_2 := blk_frozen BK183.out 2; have hfz18_3 := blk_frozen BK183.out 3)))
                  (try simp only [Act.put, List.setIfInBounds_toArray, List.set_cons_zero, List.set_cons_succ])
                  go_cut [50] (fun v50 wc => ∃ (kq : Nat) (x50_15 : Bool), v50 = .bool x50_15 ∧ Aside0 (scrimlaw18_FlexAlike.j1 kq l0 t178 x29_1 l0 (l0.length : Int) x29_1 x50_15 ((rd_T48 l0 x29_1).f0) ((rd_T48 l0 x29_1).f1) ((rd_T48 l0 x29_1).f2) ((rd_T48 l0 x29_1).f3) = some r) ∧ Aside0 (kq ≤ k1) ∧ Aside0 (Kd.R (Kd.int .i64) 2 wc w.heap.size (fun _ => True) (.slice Ao12 t178.length co12) t178) ∧ Aside0 (wc.heap[gb183]? = some (.cells #[.int .i64 ((rd_T48 l0 x29_1).f0), .int .i64 ((rd_T48 l0 x29_1).f1), .int .i64 ((rd_T48 l0 x29_1).f2), .int .i64 ((rd_T48 l0 x29_1).f3)] 48 (0, 0))) ∧ Aside0 (Below w.heap.size w wc))
                  case first =>
                    have H := HC16.out
                    clear HC16
                    by_cases c19 : ((rd_T48 l0 x29_1).f2) = 0
                    · rw [if_pos c19] at H
                      have c19b0 : (((rd_T48 l0 x29_1).f2) == 0) = true := beq_iff_eq.mpr c19
                      have c19b1 : (((rd_T48 l0 x29_1).f2) != 0) = false := bne_eq_false_iff_eq.mpr c19
                      clear c19
                      (first | rw [c19b0] | (simp only [i64_w, i32_w]; rw [c19b0]) | skip)
                      by_cases c20 : ((rd_T48 l0 x29_1).f3) = 0
                      · rw [if_pos c20] at H
                        have c20b0 : (((rd_T48 l0 x29_1).f3) == 0) = true := beq_iff_eq.mpr c20
                        have c20b1 : (((rd_T48 l0 x29_1).f3) != 0) = false := bne_eq_false_iff_eq.mpr c20
                        clear c20
                        by_cases c21 : x29_1 < (t178.length : Int)
                        · rw [if_pos c21] at H
                          have c21b0 : decide (x29_1 < (t178.length : Int)) = true := decide_eq_true c21
                          clear c21
                          have H' := Aside0.mk H
                          clear H
                          have hcz22_0 : w17.cell? ⟨gb183, 0, none⟩ = some (.int .i64 0) := (blk_cell BK183.out 0).trans rfl
                          have hcz22_1 : w17.cell? ⟨gb183, 1, none⟩ = some (.int .i64 0) := (blk_cell BK183.out 1).trans rfl
                          have hcz22_2 : w17.cell? ⟨gb183, 2, none⟩ = some (.int .i64 0) := (blk_cell BK183.out 2).trans rfl
                          have hcz22_3 : w17.cell? ⟨gb183, 3, none⟩ = some (.int .i64 0) := (blk_cell BK183.out 3).trans rfl
                          have hfz22_0 := blk_frozen BK183.out 0
                          have hfz22_1 := blk_frozen BK183.out 1
                          have hfz22_2 := blk_frozen BK183.out 2
                          have hfz22_3 := blk_frozen BK183.out 3
                          have p184 : 0 ≤ (x29_1 : Int) := of_decide_eq_true (by first | (with_reducible assumption) | assumption)
                          have q184 : x29_1 < (t178.length : Int) := of_decide_eq_true (by first | (with_reducible assumption) | assumption)
                          obtain ⟨ad184, e184, hx184_0⟩ := Kd.at_int (Kd.R_reads' HO_5.out).2.2 x29_1 p184 q184
                          cases e184
                          have hn184_0 : ad184.block ≠ gb183 := Kd.own_blk (Kd.R_ne HO_5.out BK183.out (by decide))
                          have hn184_1 : ad184.block ≠ gb183 := Kd.own_blk (Kd.R_ne HO_5.out BK183.out (by decide))
                          have hn184_2 : ad184.block ≠ gb183 := Kd.own_blk (Kd.R_ne HO_5.out BK183.out (by decide))
                          have hn184_3 : ad184.block ≠ gb183 := Kd.own_blk (Kd.R_ne HO_5.out BK183.out (by decide))
                          replace hx184_0 := (cell_far (p := ⟨gb183, 0, none⟩) (by first | (rw [add_block]; exact hn184_0) | (show (Addr.add _ _).block ≠ _; rw [add_block]; exact hn184_0) | exact hn184_0) (.int .i64 ((rd_T48 l0 x29_1).f0))).trans hx184_0
                          replace hx184_0 := (cell_far (p := ⟨gb183, 1, none⟩) (by first | (rw [add_block]; exact hn184_1) | (show (Addr.add _ _).block ≠ _; rw [add_block]; exact hn184_1) | exact hn184_1) (.int .i64 ((rd_T48 l0 x29_1).f1))).trans hx184_0
                          replace hx184_0 := (cell_far (p := ⟨gb183, 2, none⟩) (by first | (rw [add_block]; exact hn184_2) | (show (Addr.add _ _).block ≠ _; rw [add_block]; exact hn184_2) | exact hn184_2) (.int .i64 ((rd_T48 l0 x29_1).f2))).trans hx184_0
                          replace hx184_0 := (cell_far (p := ⟨gb183, 3, none⟩) (by first | (rw [add_block]; exact hn184_3) | (show (Addr.add _ _).block ≠ _; rw [add_block]; exact hn184_3) | exact hn184_3) (.int .i64 ((rd_T48 l0 x29_1).f3))).trans hx184_0
                          (try have hy184_0 := fun (n_ : Nat) => (show ((((((w17.drewN n_).setCell ⟨gb183, 0, none⟩ (.int .i64 ((rd_T48 l0 x29_1).f0))).setCell ⟨gb183, 1, none⟩ (.int .i64 ((rd_T48 l0 x29_1).f1))).setCell ⟨gb183, 2, none⟩ (.int .i64 ((rd_T48 l0 x29_1).f2))).setCell ⟨gb183, 3, none⟩ (.int .i64 ((rd_T48 l0 x29_1).f3)))).cell? _ = some _ from hx184_0))
                          clear hn184_0
                          clear hn184_1
                          clear hn184_2
                          clear hn184_3
                          replace p184 := eq_true p184
                          replace q184 := eq_true q184
                          go_wp2
                          repeat (go_quiet (fail); try go_wp2)
                          go_meet
                          case rel => exact ⟨_, (((rd t178 x29_1) != ((rd_T48 l0 x29_1).f0))), (by first | rfl | (simp; done) | (simp [*]; done)), H', ⟨by have := HK1.out; first | omega | exact Nat.le_refl _⟩, ⟨by (with_reducible repeat (first | apply Kd.R_alloc | apply Kd.R_drewN | apply Kd.R_drew)); exact Kd.R_mono (Kd.R_far (p := ⟨gb183, 3, none⟩) (Kd.R_far (p := ⟨gb183, 2, none⟩) (Kd.R_far (p := ⟨gb183, 1, none⟩) (Kd.R_far (p := ⟨gb183, 0, none⟩) (Kd.R_types HO_5.out BK183.out (by decide)) (fun _ hk => hk.2) (.int .i64 ((rd_T48 l0 x29_1).f0))) (fun _ hk => hk.2) (.int .i64 ((rd_T48 l0 x29_1).f1))) (fun _ hk => hk.2) (.int .i64 ((rd_T48 l0 x29_1).f2))) (fun _ hk => hk.2) (.int .i64 ((rd_T48 l0 x29_1).f3))) (fun _ hk => trivial)⟩, ⟨by (with_reducible repeat (first | refine blk_drewN ?_ _ | refine blk_drew ?_ | refine blk_alloc ?_ _)); refine blk_put (cs := #[.int .i64 ((rd_T48 l0 x29_1).f0), .int .i64 ((rd_T48 l0 x29_1).f1), .int .i64 ((rd_T48 l0 x29_1).f2), .int .i64 0]) ?_ 3 _ rfl; (with_reducible repeat (first | refine blk_drewN ?_ _ | refine blk_drew ?_ | refine blk_alloc ?_ _)); refine blk_put (cs := #[.int .i64 ((rd_T48 l0 x29_1).f0), .int .i64 ((rd_T48 l0 x29_1).f1), .int .i64 0, .int .i64 0]) ?_ 2 _ rfl; (with_reducible repeat (first | refine blk_drewN ?_ _ | refine blk_drew ?_ | refine blk_alloc ?_ _)); refine blk_put (cs := #[.int .i64 ((rd_T48 l0 x29_1).f0), .int .i64 0, .int .i64 0, .int .i64 0]) ?_ 1 _ rfl; (with_reducible repeat (first | refine blk_drewN ?_ _ | refine blk_drew ?_ | refine blk_alloc ?_ _)); refine blk_put (cs := #[.int .i64 0, .int .i64 0, .int .i64 0, .int .i64 0]) ?_ 0 _ rfl; (with_reducible repeat (first | refine blk_drewN ?_ _ | refine blk_drew ?_ | refine blk_alloc ?_ _)); exact BK183.out⟩, ⟨by repeat (first | (with_reducible first | exact HB.out | apply below_alloc | apply pw_below_drewN | apply below_drew1 | refine below_set ?_ GE183.out) | exact HB.out)⟩⟩
                        · rw [if_neg c21] at H
                          exact absurd H (by simp)
                      · rw [if_neg c20] at H
                        have c20b0 : (((rd_T48 l0 x29_1).f3) == 0) = false := beq_eq_false_iff_ne.mpr c20
                        have c20b1 : (((rd_T48 l0 x29_1).f3) != 0) = true := bne_iff_ne.mpr c20
                        have H' := Aside0.mk H
                        clear H
                        have hcz23_0 : w17.cell? ⟨gb183, 0, none⟩ = some (.int .i64 0) := (blk_cell BK183.out 0).trans rfl
                        have hcz23_1 : w17.cell? ⟨gb183, 1, none⟩ = some (.int .i64 0) := (blk_cell BK183.out 1).trans rfl
                        have hcz23_2 : w17.cell? ⟨gb183, 2, none⟩ = some (.int .i64 0) := (blk_cell BK183.out 2).trans rfl
                        have hcz23_3 : w17.cell? ⟨gb183, 3, none⟩ = some (.int .i64 0) := (blk_cell BK183.out 3).trans rfl
                        have hfz23_0 := blk_frozen BK183.out 0
                        have hfz23_1 := blk_frozen BK183.out 1
                        have hfz23_2 := blk_frozen BK183.out 2
                        have hfz23_3 := blk_frozen BK183.out 3
                        go_wp2
                        repeat (go_quiet (fail); try go_wp2)
                        go_meet
                        case rel => exact ⟨_, (false), (by first | rfl | (simp; done) | (simp [*]; done)), H', ⟨by have := HK1.out; first | omega | exact Nat.le_refl _⟩, ⟨by (with_reducible repeat (first | apply Kd.R_alloc | apply Kd.R_drewN | apply Kd.R_drew)); exact Kd.R_mono (Kd.R_far (p := ⟨gb183, 3, none⟩) (Kd.R_far (p := ⟨gb183, 2, none⟩) (Kd.R_far (p := ⟨gb183, 1, none⟩) (Kd.R_far (p := ⟨gb183, 0, none⟩) (Kd.R_types HO_5.out BK183.out (by decide)) (fun _ hk => hk.2) (.int .i64 ((rd_T48 l0 x29_1).f0))) (fun _ hk => hk.2) (.int .i64 ((rd_T48 l0 x29_1).f1))) (fun _ hk => hk.2) (.int .i64 ((rd_T48 l0 x29_1).f2))) (fun _ hk => hk.2) (.int .i64 ((rd_T48 l0 x29_1).f3))) (fun _ hk => trivial)⟩, ⟨by (with_reducible repeat (first | refine blk_drewN ?_ _ | refine blk_drew ?_ | refine blk_alloc ?_ _)); refine blk_put (cs := #[.int .i64 ((rd_T48 l0 x29_1).f0), .int .i64 ((rd_T48 l0 x29_1).f1), .int .i64 ((rd_T48 l0 x29_1).f2), .int .i64 0]) ?_ 3 _ rfl; (with_reducible repeat (first | refine blk_drewN ?_ _ | refine blk_drew ?_ | refine blk_alloc ?_ _)); refine blk_put (cs := #[.int .i64 ((rd_T48 l0 x29_1).f0), .int .i64 ((rd_T48 l0 x29_1).f1), .int .i64 0, .int .i64 0]) ?_ 2 _ rfl; (with_reducible repeat (first | refine blk_drewN ?_ _ | refine blk_drew ?_ | refine blk_alloc ?_ _)); refine blk_put (cs := #[.int .i64 ((rd_T48 l0 x29_1).f0), .int .i64 0, .int .i64 0, .int .i64 0]) ?_ 1 _ rfl; (with_reducible repeat (first | refine blk_drewN ?_ _ | refine blk_drew ?_ | refine blk_alloc ?_ _)); refine blk_put (cs := #[.int .i64 0, .int .i64 0, .int .i64 0, .int .i64 0]) ?_ 0 _ rfl; (with_reducible repeat (first | refine blk_drewN ?_ _ | refine blk_drew ?_ | refine blk_alloc ?_ _)); exact BK183.out⟩, ⟨by repeat (first | (with_reducible first | exact HB.out | apply below_alloc | apply pw_below_drewN | apply below_drew1 | refine below_set ?_ GE183.out) | exact HB.out)⟩⟩
                    · rw [if_neg c19] at H
                      have c19b0 : (((rd_T48 l0 x29_1).f2) == 0) = false := beq_eq_false_iff_ne.mpr c19
                      have c19b1 : (((rd_T48 l0 x29_1).f2) != 0) = true := bne_iff_ne.mpr c19
                      (first | rw [c19b0] | (simp only [i64_w, i32_w]; rw [c19b0]) | skip)
                      have H' := Aside0.mk H
                      clear H
                      have hcz24_0 : w17.cell? ⟨gb183, 0, none⟩ = some (.int .i64 0) := (blk_cell BK183.out 0).trans rfl
                      have hcz24_1 : w17.cell? ⟨gb183, 1, none⟩ = some (.int .i64 0) := (blk_cell BK183.out 1).trans rfl
                      have hcz24_2 : w17.cell? ⟨gb183, 2, none⟩ = some (.int .i64 0) := (blk_cell BK183.out 2).trans rfl
                      have hcz24_3 : w17.cell? ⟨gb183, 3, none⟩ = some (.int .i64 0) := (blk_cell BK183.out 3).trans rfl
                      have hfz24_0 := blk_frozen BK183.out 0
                      have hfz24_1 := blk_frozen BK183.out 1
                      have hfz24_2 := blk_frozen BK183.out 2
                      have hfz24_3 := blk_frozen BK183.out 3
                      go_wp2
                      repeat (go_quiet (fail); try go_wp2)
                      go_meet
                      case rel => exact ⟨_, (false), (by first | rfl | (simp; done) | (simp [*]; done)), H', ⟨by have := HK1.out; first | omega | exact Nat.le_refl _⟩, ⟨by (with_reducible repeat (first | apply Kd.R_alloc | apply Kd.R_drewN | apply Kd.R_drew)); exact Kd.R_mono (Kd.R_far (p := ⟨gb183, 3, none⟩) (Kd.R_far (p := ⟨gb183, 2, none⟩) (Kd.R_far (p := ⟨gb183, 1, none⟩) (Kd.R_far (p := ⟨gb183, 0, none⟩) (Kd.R_types HO_5.out BK183.out (by decide)) (fun _ hk => hk.2) (.int .i64 ((rd_T48 l0 x29_1).f0))) (fun _ hk => hk.2) (.int .i64 ((rd_T48 l0 x29_1).f1))) (fun _ hk => hk.2) (.int .i64 ((rd_T48 l0 x29_1).f2))) (fun _ hk => hk.2) (.int .i64 ((rd_T48 l0 x29_1).f3))) (fun _ hk => trivial)⟩, ⟨by (with_reducible repeat (first | refine blk_drewN ?_ _ | refine blk_drew ?_ | refine blk_alloc ?_ _)); refine blk_put (cs := #[.int .i64 ((rd_T48 l0 x29_1).f0), .int .i64 ((rd_T48 l0 x29_1).f1), .int .i64 ((rd_T48 l0 x29_1).f2), .int .i64 0]) ?_ 3 _ rfl; (with_reducible repeat (first | refine blk_drewN ?_ _ | refine blk_drew ?_ | refine blk_alloc ?_ _)); refine blk_put (cs := #[.int .i64 ((rd_T48 l0 x29_1).f0), .int .i64 ((rd_T48 l0 x29_1).f1), .int .i64 0, .int .i64 0]) ?_ 2 _ rfl; (with_reducible repeat (first | refine blk_drewN ?_ _ | refine blk_drew ?_ | refine blk_alloc ?_ _)); refine blk_put (cs := #[.int .i64 ((rd_T48 l0 x29_1).f0), .int .i64 0, .int .i64 0, .int .i64 0]) ?_ 1 _ rfl; (with_reducible repeat (first | refine blk_drewN ?_ _ | refine blk_drew ?_ | refine blk_alloc ?_ _)); refine blk_put (cs := #[.int .i64 0, .int .i64 0, .int .i64 0, .int .i64 0]) ?_ 0 _ rfl; (with_reducible repeat (first | refine blk_drewN ?_ _ | refine blk_drew ?_ | refine blk_alloc ?_ _)); exact BK183.out⟩, ⟨by repeat (first | (with_reducible first | exact HB.out | apply below_alloc | apply pw_below_drewN | apply below_drew1 | refine below_set ?_ GE183.out) | exact HB.out)⟩⟩
                  case rest =>
                    clear HC16
                    try clear c1
                    try clear p1
                    try clear q1
                    try clear hx1
                    try clear c2
                    try clear p2
                    try clear c4
                    try clear c6
                    try clear c7
                    try clear c8
                    try clear c8b0
                    try clear c8b1
                    try clear c8b2
                    try clear c13
                    try clear c13b0
                    try clear c14
                    try clear c14b0
                    try clear c15
                    try clear c15b0
                    try clear p18
                    try clear q18
                    try clear hx18
                    try clear c19
                    try clear c19b0
                    try clear c19b1
                    try clear c20
                    try clear c20b0
                    try clear c20b1
                    try clear c21
                    try clear c21b0
                    try clear hcz18_0
                    try clear hcz18_1
                    try clear hcz18_2
                    try clear hcz18_3
                    try clear hcz22_0
                    try clear hcz22_1
                    try clear hcz22_2
                    try clear hcz22_3
                    try clear hcz23_0
                    try clear hcz23_1
                    try clear hcz23_2
                    try clear hcz23_3
                    try clear hcz24_0
                    try clear hcz24_1
                    try clear hcz24_2
                    try clear hcz24_3
                    try clear hfz18_0
                    try clear hfz18_1
                    try clear hfz18_2
                    try clear hfz18_3
                    try clear hfz22_0
                    try clear hfz22_1
                    try clear hfz22_2
                    try clear hfz22_3
                    try clear hfz23_0
                    try clear hfz23_1
                    try clear hfz23_2
                    try clear hfz23_3
                    try clear hfz24_0
                    try clear hfz24_1
                    try clear hfz24_2
                    try clear hfz24_3
                    try clear hx182_0
                    try clear hx182_1
                    try clear hx182_2
                    try clear hx182_3
                    try clear hx184_0
                    try clear p182
                    try clear p184
                    try clear p2
                    try clear q182
                    try clear q184
                    obtain ⟨kq, x50_15, rfl, HA, HJ15, HO_5, BK183, HB⟩ := hcut
                    cases kq with
                    | zero => exact absurd HA.out (by simp [scrimlaw18_FlexAlike.j1])
                    | succ kj15 =>
                      have H := HA.out
                      clear HA
                      simp only [scrimlaw18_FlexAlike.j1] at H
                      by_cases c25 : x50_15 = true
                      · subst c25
                        have H1 : (some false) = some r := by rw [if_pos rfl] at H; exact H
                        clear H
                        have H := H1
                        clear H1
                        obtain rfl := Option.some.inj H
                        go_wp2
                        repeat (go_quiet (fail); try go_wp2)
                        go_ret
                        exact ⟨by first | rfl | (simp [errW_none, errW_some] <;> rfl) | (simp [*, errW_none, errW_some] <;> rfl), by repeat (first | (with_reducible first | exact HB.out | apply below_alloc | apply pw_below_drewN | apply below_drew1 | refine below_set ?_ GE183.out) | exact HB.out)⟩
                      · replace c25 := Bool.eq_false_iff.mpr c25
                        subst c25
                        have H1 : (scrimlaw18_FlexAlike.l1 kj15 l0 t178 x29_1 l0 (l0.length : Int) x29_1 l0 (l0.length : Int) 0 ((rd_T48 l0 x29_1).f0) ((rd_T48 l0 x29_1).f1) ((rd_T48 l0 x29_1).f2) ((rd_T48 l0 x29_1).f3)) = some r := by rw [if_neg (show ¬ (false = true) by decide)] at H; exact H
                        clear H
                        have H := H1
                        clear H1
                        have H' := Aside0.mk H
                        clear H
                        go_wp2
                        repeat (go_quiet (fail); try go_wp2)
                        go_loopg [53] kj15 (fun kq v53 w' => ∃ (x53_3 : Int), v53 = .int .i64 x53_3 ∧ Aside0 (scrimlaw18_FlexAlike.l1 kq l0 t178 x29_1 l0 (l0.length : Int) x29_1 l0 (l0.length : Int) x53_3 ((rd_T48 l0 x29_1).f0) ((rd_T48 l0 x29_1).f1) ((rd_T48 l0 x29_1).f2) ((rd_T48 l0 x29_1).f3) = some r) ∧ Aside0 (kq ≤ kj15) ∧ Aside0 (Kd.R (Kd.int .i64) 2 w' w.heap.size (fun _ => True) (.slice Ao12 t178.length co12) t178) ∧ Aside0 (w'.heap[gb183]? = some (.cells #[.int .i64 ((rd_T48 l0 x29_1).f0), .int .i64 ((rd_T48 l0 x29_1).f1), .int .i64 ((rd_T48 l0 x29_1).f2), .int .i64 ((rd_T48 l0 x29_1).f3)] 48 (0, 0))) ∧ Aside0 (Below w.heap.size w w'))
                        case atStart => exact ⟨(0), (by first | rfl | (simp; done) | (simp [*]; done)), H', ⟨Nat.le_refl _⟩, ⟨by (with_reducible repeat (first | apply Kd.R_alloc | apply Kd.R_drewN | apply Kd.R_drew)); exact HO_5.out⟩, ⟨by (with_reducible repeat (first | refine blk_drewN ?_ _ | refine blk_drew ?_ | refine blk_alloc ?_ _)); exact BK183.out⟩, ⟨by repeat (first | (with_reducible first | exact HB.out | apply below_alloc | apply pw_below_drewN | apply below_drew1 | refine below_set ?_ GE183.out) | exact HB.out)⟩⟩
                        case round =>
                          clear H'
                          try clear c1
                          try clear p1
                          try clear q1
                          try clear hx1
                          try clear c2
                          try clear p2
                          try clear c4
                          try clear c6
                          try clear c7
                          try clear c8
                          try clear c8b0
                          try clear c8b1
                          try clear c8b2
                          try clear c13
                          try clear c13b0
                          try clear c14
                          try clear c14b0
                          try clear c15
                          try clear c15b0
                          try clear p18
                          try clear q18
                          try clear hx18
                          try clear c19
                          try clear c19b0
                          try clear c19b1
                          try clear c20
                          try clear c20b0
                          try clear c20b1
                          try clear c21
                          try clear c21b0
                          try clear c25
                          try clear hcz18_0
                          try clear hcz18_1
                          try clear hcz18_2
                          try clear hcz18_3
                          try clear hcz22_0
                          try clear hcz22_1
                          try clear hcz22_2
                          try clear hcz22_3
                          try clear hcz23_0
                          try clear hcz23_1
                          try clear hcz23_2
                          try clear hcz23_3
                          try clear hcz24_0
                          try clear hcz24_1
                          try clear hcz24_2
                          try clear hcz24_3
                          try clear hfz18_0
                          try clear hfz18_1
                          try clear hfz18_2
                          try clear hfz18_3
                          try clear hfz22_0
                          try clear hfz22_1
                          try clear hfz22_2
                          try clear hfz22_3
                          try clear hfz23_0
                          try clear hfz23_1
                          try clear hfz23_2
                          try clear hfz23_3
                          try clear hfz24_0
                          try clear hfz24_1
                          try clear hfz24_2
                          try clear hfz24_3
                          try clear hx182_0
                          try clear hx182_1
                          try clear hx182_2
                          try clear hx182_3
                          try clear hx184_0
                          try clear p1
                          try clear p18
                          try clear p182
                          try clear p184
                          try clear p2
                          try clear q1
                          try clear q18
                          try clear q182
                          try clear q184
                          obtain ⟨x53_3, rfl, HA, HK3, HO_5, BK183, HB⟩ := hrel
                          cases gk with
                          | zero => exact absurd HA.out (by simp [scrimlaw18_FlexAlike.l1])
                          | succ k3 =>
                            have H := HA.out
                            clear HA
                            simp only [scrimlaw18_FlexAlike.l1] at H
                            by_cases c26 : x53_3 < (l0.length : Int)
                            · rw [if_pos c26] at H
                              have c26b0 : decide (x53_3 < (l0.length : Int)) = true := decide_eq_true c26
                              clear c26
                              by_cases c27 : 0 ≤ x53_3
                              · rw [if_pos c27] at H
                                have c27b0 : decide (0 ≤ x53_3) = true := decide_eq_true c27
                                clear c27
                                by_cases c28 : x53_3 < (l0.length : Int)
                                · rw [if_pos c28] at H
                                  have c28b0 : decide (x53_3 < (l0.length : Int)) = true := decide_eq_true c28
                                  clear c28
                                  have HC29 := Aside0.mk H
                                  clear H
                                  have p185 : 0 ≤ (x53_3 : Int) := of_decide_eq_true (by first | (with_reducible assumption) | assumption)
                                  have q185 : x53_3 < (l0.length : Int) := of_decide_eq_true (by first | (with_reducible assumption) | assumption)
                                  obtain ⟨ad185, e185, hx185_0, hx185_1, hx185_2, hx185_3⟩ := at_T48 HR0.out x53_3 p185 q185
                                  obtain rfl : ad182 = ad185 := (by injection e185)
                                  replace hx185_0 := (HB.out.cell (World.block_lt_of_cell? w _ hx185_0)).trans hx185_0
                                  replace hx185_1 := (HB.out.cell (World.block_lt_of_cell? w _ hx185_1)).trans hx185_1
                                  replace hx185_2 := (HB.out.cell (World.block_lt_of_cell? w _ hx185_2)).trans hx185_2
                                  replace hx185_3 := (HB.out.cell (World.block_lt_of_cell? w _ hx185_3)).trans hx185_3
                                  replace p185 := eq_true p185
                                  replace q185 := eq_true q185
                                  go_upto_region 16 with (first | ((with_reducible refine gate_dst (N := 10) rfl ?_); refine box_event ?hg (N := 10) ?hd (cs := #[.int .i64 0, .int .i64 0, .int .i64 0, .int .i64 0]) (t := 48) ?hr ?_; (case hd => rfl); (case hg => rfl); (case hr => first | (go_simp; done) | (go_simp; rfl)); intro gb186 hg w30 hbox hb; have n0_ := Aside0.mk (Kd.R_below (by (with_reducible repeat (first | apply Kd.R_alloc | apply Kd.R_drewN | apply Kd.R_drew)); exact HO_5.out) hb); have n1_ := Aside0.mk (blk_below (g := gb183) (o := .cells #[.int .i64 ((rd_T48 l0 x29_1).f0), .int .i64 ((rd_T48 l0 x29_1).f1), .int .i64 ((rd_T48 l0 x29_1).f2), .int .i64 ((rd_T48 l0 x29_1).f3)] 48 (0, 0)) (by (with_reducible repeat (first | refine blk_drewN ?_ _ | refine blk_drew ?_ | refine blk_alloc ?_ _)); exact BK183.out) hb); have n2_ := Aside0.mk (below_step (by repeat (first | (with_reducible first | exact HB.out | apply below_alloc | apply pw_below_drewN | apply below_drew1 | refine below_set ?_ GE183.out) | exact HB.out)) hb); have n3_ := Aside0.mk (hbox); have n4_ := Aside0.mk ((by rw [hg]; exact (below_size (by repeat (first | (with_reducible first | exact HB.out | apply below_alloc | apply pw_below_drewN | apply below_drew1 | refine below_set ?_ GE183.out) | exact HB.out))) : w.heap.size ≤ gb186)); have n5_ := Aside0.mk ((by rw [hg]; exact (below_size (by repeat (first | (with_reducible first | exact HB.out | apply below_alloc | apply pw_below_drewN | apply below_drew1 | refine below_set ?_ GE183.out) | exact HB.out))) : w.heap.size ≤ gb186)); have n6_ := Aside0.mk ((by rw [hg]; exact Nat.ne_of_lt (blk_lt (g := gb183) (o := .cells #[.int .i64 ((rd_T48 l0 x29_1).f0), .int .i64 ((rd_T48 l0 x29_1).f1), .int .i64 ((rd_T48 l0 x29_1).f2), .int .i64 ((rd_T48 l0 x29_1).f3)] 48 (0, 0)) (by (with_reducible repeat (first | refine blk_drewN ?_ _ | refine blk_drew ?_ | refine blk_alloc ?_ _)); exact BK183.out)) : gb183 ≠ gb186)); have n7_ := Aside0.mk ((by rw [hg]; exact Nat.ne_of_gt (blk_lt (g := gb183) (o := .cells #[.int .i64 ((rd_T48 l0 x29_1).f0), .int .i64 ((rd_T48 l0 x29_1).f1), .int .i64 ((rd_T48 l0 x29_1).f2), .int .i64 ((rd_T48 l0 x29_1).f3)] 48 (0, 0)) (by (with_reducible repeat (first | refine blk_drewN ?_ _ | refine blk_drew ?_ | refine blk_alloc ?_ _)); exact BK183.out)) : gb186 ≠ gb183)); clear HO_5; clear BK183; clear HB; have HO_5 := n0_; have BK183 := n1_; have HB := n2_; have BK186 := n3_; have GW186 := n4_; have GE186 := n5_; have NB183_186 := n6_; have NB186_183 := n7_; clear n0_ n1_ n2_ n3_ n4_ n5_ n6_ n7_; clear hb hbox hg; have hnb31 := NB186_183.out; have hnc31 := NB183_186.out; have hcz32_0 : w30.cell? ⟨gb186, 0, none⟩ = some (.int .i64 0) := (blk_cell BK186.out 0).trans rfl; have hcz32_1 : w30.cell? ⟨gb186, 1, none⟩ = some (.int .i64 0) := (blk_cell BK186.out 1).trans rfl; have hcz32_2 : w30.cell? ⟨gb186, 2, none⟩ = some (.int .i64 0) := (blk_cell BK186.out 2).trans rfl; have hcz32_3 : w30.cell? ⟨gb186, 3, none⟩ = some (.int .i64 0) := (blk_cell BK186.out 3).trans rfl; have hfz32_0 := blk_frozen BK186.out 0; have hfz32_1 := blk_frozen BK186.out 1; have hfz32_2 := blk_frozen BK186.out 2; have hfz32_3 := blk_frozen BK186.out 3))
                                  repeat (go_quiet (first | ((with_reducible refine gate_dst (N := 10) rfl ?_); refine box_event ?hg (N := 10) ?hd (cs := #[.int .i64 0, .int .i64 0, .int .i64 0, .int .i64 0]) (t := 48) ?hr ?_; (case hd => rfl); (case hg => rfl); (case hr => first | (go_simp; done) | (go_simp; rfl)); intro gb186 hg w30 hbox hb; have n0_ := Aside0.mk (Kd.R_below (by (with_reducible repeat (first | apply Kd.R_alloc | apply Kd.R_drewN | apply Kd.R_drew)); exact HO_5.out) hb); have n1_ := Aside0.mk (blk_below (g := gb183) (o := .cells #[.int .i64 ((rd_T48 l0 x29_1).f0), .int .i64 ((rd_T48 l0 x29_1).f1), .int .i64 ((rd_T48 l0 x29_1).f2), .int .i64 ((rd_T48 l0 x29_1).f3)] 48 (0, 0)) (by (with_reducible repeat (first | refine blk_drewN ?_ _ | refine blk_drew ?_ | refine blk_alloc ?_ _)); exact BK183.out) hb); have n2_ := Aside0.mk (below_step (by repeat (first | (with_reducible first | exact HB.out | apply below_alloc | apply pw_below_drewN | apply below_drew1 | refine below_set ?_ GE183.out) | exact HB.out)) hb); have n3_ := Aside0.mk (hbox); have n4_ := Aside0.mk ((by rw [hg]; exact (below_size (by repeat (first | (with_reducible first | exact HB.out | apply below_alloc | apply pw_below_drewN | apply below_drew1 | refine below_set ?_ GE183.out) | exact HB.out))) : w.heap.size ≤ gb186)); have n5_ := Aside0.mk ((by rw [hg]; exact (below_size (by repeat (first | (with_reducible first | exact HB.out | apply below_alloc | apply pw_below_drewN | apply below_drew1 | refine below_set ?_ GE183.out) | exact HB.out))) : w.heap.size ≤ gb186)); have n6_ := Aside0.mk ((by rw [hg]; exact Nat.ne_of_lt (blk_lt (g := gb183) (o := .cells #[.int .i64 ((rd_T48 l0 x29_1).f0), .int .i64 ((rd_T48 l0 x29_1).f1), .int .i64 ((rd_T48 l0 x29_1).f2), .int .i64 ((rd_T48 l0 x29_1).f3)] 48 (0, 0)) (by (with_reducible repeat (first | refine blk_drewN ?_ _ | refine blk_drew ?_ | refine blk_alloc ?_ _)); exact BK183.out)) : gb183 ≠ gb186)); have n7_ := Aside0.mk ((by rw [hg]; exact Nat.ne_of_gt (blk_lt (g := gb183) (o := .cells #[.int .i64 ((rd_T48 l0 x29_1).f0), .int .i64 ((rd_T48 l0 x29_1).f1), .int .i64 ((rd_T48 l0 x29_1).f2), .int .i64 ((rd_T48 l0 x29_1).f3)] 48 (0, 0)) (by (with_reducible repeat (first | refine blk_drewN ?_ _ | refine blk_drew ?_ | refine blk_alloc ?_ _)); exact BK183.out)) : gb186 ≠ gb183)); clear HO_5; clear BK183; clear HB; have HO_5 := n0_; have BK183 := n1_; have HB := n2_; have BK186 := n3_; have GW186 := n4_; have GE186 := n5_; have NB183_186 := n6_; have NB186_183 := n7_; clear n0_ n1_ n2_ n3_ n4_ n5_ n6_ n7_; clear hb hbox hg; have hnb31 := NB186_183.out; have hnc31 := NB183_186.out; have hcz32_0 : w30.cell? ⟨gb186, 0, none⟩ = some (.int .i64 0) := (blk_cell BK186.out 0).trans rfl; have hcz32_1 : w30.cell? ⟨gb186, 1, none⟩ = some (.int .i64 0) := (blk_cell BK186.out 1).trans rfl; have hcz32_2 : w30.cell? ⟨gb186, 2, none⟩ = some (.int .i64 0) := (blk_cell BK186.out 2).trans rfl; have hcz32_3 : w30.cell? ⟨gb186, 3, none⟩ = some (.int .i64 0) := (blk_cell BK186.out 3).trans rfl; have hfz32_0 := blk_frozen BK186.out 0; have hfz32_1 := blk_frozen BK186.out 1; have hfz32_2 := blk_frozen BK186.out 2; have hfz32_3 := blk_frozen BK186.out 3)); go_upto_region 16 with (first | ((with_reducible refine gate_dst (N := 10) rfl ?_); refine box_event ?hg (N := 10) ?hd (cs := #[.int .i64 0, .int .i64 0, .int .i64 0, .int .i64 0]) (t := 48) ?hr ?_; (case hd => rfl); (case hg => rfl); (case hr => first | (go_simp; done) | (go_simp; rfl)); intro gb186 hg w30 hbox hb; have n0_ := Aside0.mk (Kd.R_below (by (with_reducible repeat (first | apply Kd.R_alloc | apply Kd.R_drewN | apply Kd.R_drew)); exact HO_5.out) hb); have n1_ := Aside0.mk (blk_below (g := gb183) (o := .cells #[.int .i64 ((rd_T48 l0 x29_1).f0), .int .i64 ((rd_T48 l0 x29_1).f1), .int .i64 ((rd_T48 l0 x29_1).f2), .int .i64 ((rd_T48 l0 x29_1).f3)] 48 (0, 0)) (by (with_reducible repeat (first | refine blk_drewN ?_ _ | refine blk_drew ?_ | refine blk_alloc ?_ _)); exact BK183.out) hb); have n2_ := Aside0.mk (below_step (by repeat (first | (with_reducible first | exact HB.out | apply below_alloc | apply pw_below_drewN | apply below_drew1 | refine below_set ?_ GE183.out) | exact HB.out)) hb); have n3_ := Aside0.mk (hbox); have n4_ := Aside0.mk ((by rw [hg]; exact (below_size (by repeat (first | (with_reducible first | exact HB.out | apply below_alloc | apply pw_below_drewN | apply below_drew1 | refine below_set ?_ GE183.out) | exact HB.out))) : w.heap.size ≤ gb186)); have n5_ := Aside0.mk ((by rw [hg]; exact (below_size (by repeat (first | (with_reducible first | exact HB.out | apply below_alloc | apply pw_below_drewN | apply below_drew1 | refine below_set ?_ GE183.out) | exact HB.out))) : w.heap.size ≤ gb186)); have n6_ := Aside0.mk ((by rw [hg]; exact Nat.ne_of_lt (blk_lt (g := gb183) (o := .cells #[.int .i64 ((rd_T48 l0 x29_1).f0), .int .i64 ((rd_T48 l0 x29_1).f1), .int .i64 ((rd_T48 l0 x29_1).f2), .int .i64 ((rd_T48 l0 x29_1).f3)] 48 (0, 0)) (by (with_reducible repeat (first | refine blk_drewN ?_ _ | refine blk_drew ?_ | refine blk_alloc ?_ _)); exact BK183.out)) : gb183 ≠ gb186)); have n7_ := Aside0.mk ((by rw [hg]; exact Nat.ne_of_gt (blk_lt (g := gb183) (o := .cells #[.int .i64 ((rd_T48 l0 x29_1).f0), .int .i64 ((rd_T48 l0 x29_1).f1), .int .i64 ((rd_T48 l0 x29_1).f2), .int .i64 ((rd_T48 l0 x29_1).f3)] 48 (0, 0)) (by (with_reducible repeat (first | refine blk_drewN ?_ _ | refine blk_drew ?_ | refine blk_alloc ?_ _)); exact BK183.out)) : gb186 ≠ gb183)); clear HO_5; clear BK183; clear HB; have HO_5 := n0_; have BK183 := n1_; have HB := n2_; have BK186 := n3_; have GW186 := n4_; have GE186 := n5_; have NB183_186 := n6_; have NB186_183 := n7_; clear n0_ n1_ n2_ n3_ n4_ n5_ n6_ n7_; clear hb hbox hg; have hnb31 := NB186_183.out; have hnc31 := NB183_186.out; have hcz32_0 : w30.cell? ⟨gb186, 0, none⟩ = some (.int .i64 0) := (blk_cell BK186.out 0).trans rfl; have hcz32_1 : w30.cell? ⟨gb186, 1, none⟩ = some (.int .i64 0) := (blk_cell BK186.out 1).trans rfl; have hcz32_2 : w30.cell? ⟨gb186, 2, none⟩ = some (.int .i64 0) := (blk_cell BK186.out 2).trans rfl; have hcz32_3 : w30.cell? ⟨gb186, 3, none⟩ = some (.int .i64 0) := (blk_cell BK186.out 3).trans rfl; have hfz32_0 := blk_frozen BK186.out 0; have hfz32_1 := blk_frozen BK186.out 1; have hfz32_2 := blk_frozen BK186.out 2; have hfz32_3 := blk_frozen BK186.out 3)))
                                  (try simp only [Act.put, List.setIfInBounds_toArray, List.set_cons_zero, List.set_cons_succ])
                                  go_cut [87] (fun v87 wc => ∃ (kq : Nat) (x87_28 : Bool), v87 = .bool x87_28 ∧ Aside0 (scrimlaw18_FlexAlike.j3 kq l0 t178 x29_1 x53_3 l0 (l0.length : Int) x29_1 l0 (l0.length : Int) x53_3 x87_28 ((rd_T48 l0 x29_1).f0) ((rd_T48 l0 x29_1).f1) ((rd_T48 l0 x29_1).f2) ((rd_T48 l0 x29_1).f3) ((rd_T48 l0 x53_3).f0) ((rd_T48 l0 x53_3).f1) ((rd_T48 l0 x53_3).f2) ((rd_T48 l0 x53_3).f3) = some r) ∧ Aside0 (kq ≤ k3) ∧ Aside0 (Kd.R (Kd.int .i64) 2 wc w.heap.size (fun _ => True) (.slice Ao12 t178.length co12) t178) ∧ Aside0 (wc.heap[gb183]? = some (.cells #[.int .i64 ((rd_T48 l0 x29_1).f0), .int .i64 ((rd_T48 l0 x29_1).f1), .int .i64 ((rd_T48 l0 x29_1).f2), .int .i64 ((rd_T48 l0 x29_1).f3)] 48 (0, 0))) ∧ Aside0 (wc.heap[gb186]? = some (.cells #[.int .i64 ((rd_T48 l0 x53_3).f0), .int .i64 ((rd_T48 l0 x53_3).f1), .int .i64 ((rd_T48 l0 x53_3).f2), .int .i64 ((rd_T48 l0 x53_3).f3)] 48 (0, 0))) ∧ Aside0 (Below w.heap.size w wc))
                                  case first =>
                                    have H := HC29.out
                                    clear HC29
                                    by_cases c33 : ((rd_T48 l0 x29_1).f0) = ((rd_T48 l0 x53_3).f0)
                                    · rw [if_pos c33] at H
                                      have c33b0 : (((rd_T48 l0 x29_1).f0) == ((rd_T48 l0 x53_3).f0)) = true := beq_iff_eq.mpr c33
                                      have c33b1 : (((rd_T48 l0 x29_1).f0) != ((rd_T48 l0 x53_3).f0)) = false := bne_eq_false_iff_eq.mpr c33
                                      clear c33
                                      (first | rw [c33b0] | (simp only [i64_w, i32_w]; rw [c33b0]) | skip)
                                      by_cases c34 : ((rd_T48 l0 x29_1).f2) = ((rd_T48 l0 x53_3).f2)
                                      · rw [if_pos c34] at H
                                        have c34b0 : (((rd_T48 l0 x29_1).f2) == ((rd_T48 l0 x53_3).f2)) = true := beq_iff_eq.mpr c34
                                        have c34b1 : (((rd_T48 l0 x29_1).f2) != ((rd_T48 l0 x53_3).f2)) = false := bne_eq_false_iff_eq.mpr c34
                                        clear c34
                                        by_cases c35 : ((rd_T48 l0 x29_1).f3) = ((rd_T48 l0 x53_3).f3)
                                        · rw [if_pos c35] at H
                                          have c35b0 : (((rd_T48 l0 x29_1).f3) == ((rd_T48 l0 x53_3).f3)) = true := beq_iff_eq.mpr c35
                                          have c35b1 : (((rd_T48 l0 x29_1).f3) != ((rd_T48 l0 x53_3).f3)) = false := bne_eq_false_iff_eq.mpr c35
                                          clear c35
                                          by_cases c36 : 0 ≤ x29_1
                                          · rw [if_pos c36] at H
                                            have c36b0 : decide (0 ≤ x29_1) = true := decide_eq_true c36
                                            clear c36
                                            by_cases c37 : x29_1 < (t178.length : Int)
                                            · rw [if_pos c37] at H
                                              have c37b0 : decide (x29_1 < (t178.length : Int)) = true := decide_eq_true c37
                                              clear c37
                                              by_cases c38 : x53_3 < (t178.length : Int)
                                              · rw [if_pos c38] at H
                                                have c38b0 : decide (x53_3 < (t178.length : Int)) = true := decide_eq_true c38
                                                clear c38
                                                have H' := Aside0.mk H
                                                clear H
                                                have hnb39 := NB183_186.out
                                                have hnc39 := NB186_183.out
                                                have hcz40_0 : w30.cell? ⟨gb183, 0, none⟩ = some (.int .i64 ((rd_T48 l0 x29_1).f0)) := (blk_cell BK183.out 0).trans rfl
                                                have hcz40_1 : w30.cell? ⟨gb183, 1, none⟩ = some (.int .i64 ((rd_T48 l0 x29_1).f1)) := (blk_cell BK183.out 1).trans rfl
                                                have hcz40_2 : w30.cell? ⟨gb183, 2, none⟩ = some (.int .i64 ((rd_T48 l0 x29_1).f2)) := (blk_cell BK183.out 2).trans rfl
                                                have hcz40_3 : w30.cell? ⟨gb183, 3, none⟩ = some (.int .i64 ((rd_T48 l0 x29_1).f3)) := (blk_cell BK183.out 3).trans rfl
                                                have hfz40_0 := blk_frozen BK183.out 0
                                                have hfz40_1 := blk_frozen BK183.out 1
                                                have hfz40_2 := blk_frozen BK183.out 2
                                                have hfz40_3 := blk_frozen BK183.out 3
                                                have hcz41_0 : w30.cell? ⟨gb186, 0, none⟩ = some (.int .i64 0) := (blk_cell BK186.out 0).trans rfl
                                                have hcz41_1 : w30.cell? ⟨gb186, 1, none⟩ = some (.int .i64 0) := (blk_cell BK186.out 1).trans rfl
                                                have hcz41_2 : w30.cell? ⟨gb186, 2, none⟩ = some (.int .i64 0) := (blk_cell BK186.out 2).trans rfl
                                                have hcz41_3 : w30.cell? ⟨gb186, 3, none⟩ = some (.int .i64 0) := (blk_cell BK186.out 3).trans rfl
                                                have hfz41_0 := blk_frozen BK186.out 0
                                                have hfz41_1 := blk_frozen BK186.out 1
                                                have hfz41_2 := blk_frozen BK186.out 2
                                                have hfz41_3 := blk_frozen BK186.out 3
                                                have p187 : 0 ≤ (x29_1 : Int) := of_decide_eq_true (by first | (with_reducible assumption) | assumption)
                                                have q187 : x29_1 < (t178.length : Int) := of_decide_eq_true (by first | (with_reducible assumption) | assumption)
                                                obtain ⟨ad187, e187, hx187_0⟩ := Kd.at_int (Kd.R_reads' HO_5.out).2.2 x29_1 p187 q187
                                                cases e187
                                                have hn187_0 : ad187.block ≠ gb186 := Kd.own_blk (Kd.R_ne HO_5.out BK186.out (by decide))
                                                have hn187_1 : ad187.block ≠ gb186 := Kd.own_blk (Kd.R_ne HO_5.out BK186.out (by decide))
                                                have hn187_2 : ad187.block ≠ gb186 := Kd.own_blk (Kd.R_ne HO_5.out BK186.out (by decide))
                                                have hn187_3 : ad187.block ≠ gb186 := Kd.own_blk (Kd.R_ne HO_5.out BK186.out (by decide))
                                                replace hx187_0 := (cell_far (p := ⟨gb186, 0, none⟩) (by first | (rw [add_block]; exact hn187_0) | (show (Addr.add _ _).block ≠ _; rw [add_block]; exact hn187_0) | exact hn187_0) (.int .i64 ((rd_T48 l0 x53_3).f0))).trans hx187_0
                                                replace hx187_0 := (cell_far (p := ⟨gb186, 1, none⟩) (by first | (rw [add_block]; exact hn187_1) | (show (Addr.add _ _).block ≠ _; rw [add_block]; exact hn187_1) | exact hn187_1) (.int .i64 ((rd_T48 l0 x53_3).f1))).trans hx187_0
                                                replace hx187_0 := (cell_far (p := ⟨gb186, 2, none⟩) (by first | (rw [add_block]; exact hn187_2) | (show (Addr.add _ _).block ≠ _; rw [add_block]; exact hn187_2) | exact hn187_2) (.int .i64 ((rd_T48 l0 x53_3).f2))).trans hx187_0
                                                replace hx187_0 := (cell_far (p := ⟨gb186, 3, none⟩) (by first | (rw [add_block]; exact hn187_3) | (show (Addr.add _ _).block ≠ _; rw [add_block]; exact hn187_3) | exact hn187_3) (.int .i64 ((rd_T48 l0 x53_3).f3))).trans hx187_0
                                                (try have hy187_0 := fun (n_ : Nat) => (show ((((((w30.drewN n_).setCell ⟨gb186, 0, none⟩ (.int .i64 ((rd_T48 l0 x53_3).f0))).setCell ⟨gb186, 1, none⟩ (.int .i64 ((rd_T48 l0 x53_3).f1))).setCell ⟨gb186, 2, none⟩ (.int .i64 ((rd_T48 l0 x53_3).f2))).setCell ⟨gb186, 3, none⟩ (.int .i64 ((rd_T48 l0 x53_3).f3)))).cell? _ = some _ from hx187_0))
                                                clear hn187_0
                                                clear hn187_1
                                                clear hn187_2
                                                clear hn187_3
                                                replace p187 := eq_true p187
                                                replace q187 := eq_true q187
                                                have p188 : 0 ≤ (x53_3 : Int) := of_decide_eq_true (by first | (with_reducible assumption) | assumption)
                                                have q188 : x53_3 < (t178.length : Int) := of_decide_eq_true (by first | (with_reducible assumption) | assumption)
                                                obtain ⟨ad188, e188, hx188_0⟩ := Kd.at_int (Kd.R_reads' HO_5.out).2.2 x53_3 p188 q188
                                                obtain rfl : ad187 = ad188 := (by injection e188)
                                                have hn188_0 : ad187.block ≠ gb186 := Kd.own_blk (Kd.R_ne HO_5.out BK186.out (by decide))
                                                have hn188_1 : ad187.block ≠ gb186 := Kd.own_blk (Kd.R_ne HO_5.out BK186.out (by decide))
                                                have hn188_2 : ad187.block ≠ gb186 := Kd.own_blk (Kd.R_ne HO_5.out BK186.out (by decide))
                                                have hn188_3 : ad187.block ≠ gb186 := Kd.own_blk (Kd.R_ne HO_5.out BK186.out (by decide))
                                                replace hx188_0 := (cell_far (p := ⟨gb186, 0, none⟩) (by first | (rw [add_block]; exact hn188_0) | (show (Addr.add _ _).block ≠ _; rw [add_block]; exact hn188_0) | exact hn188_0) (.int .i64 ((rd_T48 l0 x53_3).f0))).trans hx188_0
                                                replace hx188_0 := (cell_far (p := ⟨gb186, 1, none⟩) (by first | (rw [add_block]; exact hn188_1) | (show (Addr.add _ _).block ≠ _; rw [add_block]; exact hn188_1) | exact hn188_1) (.int .i64 ((rd_T48 l0 x53_3).f1))).trans hx188_0
                                                replace hx188_0 := (cell_far (p := ⟨gb186, 2, none⟩) (by first | (rw [add_block]; exact hn188_2) | (show (Addr.add _ _).block ≠ _; rw [add_block]; exact hn188_2) | exact hn188_2) (.int .i64 ((rd_T48 l0 x53_3).f2))).trans hx188_0
                                                replace hx188_0 := (cell_far (p := ⟨gb186, 3, none⟩) (by first | (rw [add_block]; exact hn188_3) | (show (Addr.add _ _).block ≠ _; rw [add_block]; exact hn188_3) | exact hn188_3) (.int .i64 ((rd_T48 l0 x53_3).f3))).trans hx188_0
                                                (try have hy188_0 := fun (n_ : Nat) => (show ((((((w30.drewN n_).setCell ⟨gb186, 0, none⟩ (.int .i64 ((rd_T48 l0 x53_3).f0))).setCell ⟨gb186, 1, none⟩ (.int .i64 ((rd_T48 l0 x53_3).f1))).setCell ⟨gb186, 2, none⟩ (.int .i64 ((rd_T48 l0 x53_3).f2))).setCell ⟨gb186, 3, none⟩ (.int .i64 ((rd_T48 l0 x53_3).f3)))).cell? _ = some _ from hx188_0))
                                                clear hn188_0
                                                clear hn188_1
                                                clear hn188_2
                                                clear hn188_3
                                                replace p188 := eq_true p188
                                                replace q188 := eq_true q188
                                                go_wp2
                                                repeat (go_quiet (fail); try go_wp2)
                                                go_meet
                                                case rel => exact ⟨_, (((rd t178 x29_1) != (rd t178 x53_3))), (by first | rfl | (simp; done) | (simp [*]; done)), H', ⟨by have := HK1.out; have := HJ15.out; have := HK3.out; first | omega | exact Nat.le_refl _⟩, ⟨by (with_reducible repeat (first | apply Kd.R_alloc | apply Kd.R_drewN | apply Kd.R_drew)); exact Kd.R_mono (Kd.R_far (p := ⟨gb186, 3, none⟩) (Kd.R_far (p := ⟨gb186, 2, none⟩) (Kd.R_far (p := ⟨gb186, 1, none⟩) (Kd.R_far (p := ⟨gb186, 0, none⟩) (Kd.R_types HO_5.out BK186.out (by decide)) (fun _ hk => hk.2) (.int .i64 ((rd_T48 l0 x53_3).f0))) (fun _ hk => hk.2) (.int .i64 ((rd_T48 l0 x53_3).f1))) (fun _ hk => hk.2) (.int .i64 ((rd_T48 l0 x53_3).f2))) (fun _ hk => hk.2) (.int .i64 ((rd_T48 l0 x53_3).f3))) (fun _ hk => trivial)⟩, ⟨by (with_reducible repeat (first | refine blk_drewN ?_ _ | refine blk_drew ?_ | refine blk_alloc ?_ _)); refine blk_far ?_ NB183_186.out _; (with_reducible repeat (first | refine blk_drewN ?_ _ | refine blk_drew ?_ | refine blk_alloc ?_ _)); refine blk_far ?_ NB183_186.out _; (with_reducible repeat (first | refine blk_drewN ?_ _ | refine blk_drew ?_ | refine blk_alloc ?_ _)); refine blk_far ?_ NB183_186.out _; (with_reducible repeat (first | refine blk_drewN ?_ _ | refine blk_drew ?_ | refine blk_alloc ?_ _)); refine blk_far ?_ NB183_186.out _; (with_reducible repeat (first | refine blk_drewN ?_ _ | refine blk_drew ?_ | refine blk_alloc ?_ _)); exact BK183.out⟩, ⟨by (with_reducible repeat (first | refine blk_drewN ?_ _ | refine blk_drew ?_ | refine blk_alloc ?_ _)); refine blk_put (cs := #[.int .i64 ((rd_T48 l0 x53_3).f0), .int .i64 ((rd_T48 l0 x53_3).f1), .int .i64 ((rd_T48 l0 x53_3).f2), .int .i64 0]) ?_ 3 _ rfl; (with_reducible repeat (first | refine blk_drewN ?_ _ | refine blk_drew ?_ | refine blk_alloc ?_ _)); refine blk_put (cs := #[.int .i64 ((rd_T48 l0 x53_3).f0), .int .i64 ((rd_T48 l0 x53_3).f1), .int .i64 0, .int .i64 0]) ?_ 2 _ rfl; (with_reducible repeat (first | refine blk_drewN ?_ _ | refine blk_drew ?_ | refine blk_alloc ?_ _)); refine blk_put (cs := #[.int .i64 ((rd_T48 l0 x53_3).f0), .int .i64 0, .int .i64 0, .int .i64 0]) ?_ 1 _ rfl; (with_reducible repeat (first | refine blk_drewN ?_ _ | refine blk_drew ?_ | refine blk_alloc ?_ _)); refine blk_put (cs := #[.int .i64 0, .int .i64 0, .int .i64 0, .int .i64 0]) ?_ 0 _ rfl; (with_reducible repeat (first | refine blk_drewN ?_ _ | refine blk_drew ?_ | refine blk_alloc ?_ _)); exact BK186.out⟩, ⟨by repeat (first | (with_reducible first | exact HB.out | apply below_alloc | apply pw_below_drewN | apply below_drew1 | refine below_set ?_ GE183.out | refine below_set ?_ GE186.out) | exact HB.out)⟩⟩
                                              · rw [if_neg c38] at H
                                                exact absurd H (by simp)
                                            · rw [if_neg c37] at H
                                              exact absurd H (by simp)
                                          · rw [if_neg c36] at H
                                            exact absurd H (by simp)
                                        · rw [if_neg c35] at H
                                          have c35b0 : (((rd_T48 l0 x29_1).f3) == ((rd_T48 l0 x53_3).f3)) = false := beq_eq_false_iff_ne.mpr c35
                                          have c35b1 : (((rd_T48 l0 x29_1).f3) != ((rd_T48 l0 x53_3).f3)) = true := bne_iff_ne.mpr c35
                                          have H' := Aside0.mk H
                                          clear H
                                          have hnb42 := NB183_186.out
                                          have hnc42 := NB186_183.out
                                          have hcz43_0 : w30.cell? ⟨gb183, 0, none⟩ = some (.int .i64 ((rd_T48 l0 x29_1).f0)) := (blk_cell BK183.out 0).trans rfl
                                          have hcz43_1 : w30.cell? ⟨gb183, 1, none⟩ = some (.int .i64 ((rd_T48 l0 x29_1).f1)) := (blk_cell BK183.out 1).trans rfl
                                          have hcz43_2 : w30.cell? ⟨gb183, 2, none⟩ = some (.int .i64 ((rd_T48 l0 x29_1).f2)) := (blk_cell BK183.out 2).trans rfl
                                          have hcz43_3 : w30.cell? ⟨gb183, 3, none⟩ = some (.int .i64 ((rd_T48 l0 x29_1).f3)) := (blk_cell BK183.out 3).trans rfl
                                          have hfz43_0 := blk_frozen BK183.out 0
                                          have hfz43_1 := blk_frozen BK183.out 1
                                          have hfz43_2 := blk_frozen BK183.out 2
                                          have hfz43_3 := blk_frozen BK183.out 3
                                          have hcz44_0 : w30.cell? ⟨gb186, 0, none⟩ = some (.int .i64 0) := (blk_cell BK186.out 0).trans rfl
                                          have hcz44_1 : w30.cell? ⟨gb186, 1, none⟩ = some (.int .i64 0) := (blk_cell BK186.out 1).trans rfl
                                          have hcz44_2 : w30.cell? ⟨gb186, 2, none⟩ = some (.int .i64 0) := (blk_cell BK186.out 2).trans rfl
                                          have hcz44_3 : w30.cell? ⟨gb186, 3, none⟩ = some (.int .i64 0) := (blk_cell BK186.out 3).trans rfl
                                          have hfz44_0 := blk_frozen BK186.out 0
                                          have hfz44_1 := blk_frozen BK186.out 1
                                          have hfz44_2 := blk_frozen BK186.out 2
                                          have hfz44_3 := blk_frozen BK186.out 3
                                          go_wp2
                                          repeat (go_quiet (fail); try go_wp2)
                                          go_meet
                                          case rel => exact ⟨_, (false), (by first | rfl | (simp; done) | (simp [*]; done)), H', ⟨by have := HK1.out; have := HJ15.out; have := HK3.out; first | omega | exact Nat.le_refl _⟩, ⟨by (with_reducible repeat (first | apply Kd.R_alloc | apply Kd.R_drewN | apply Kd.R_drew)); exact Kd.R_mono (Kd.R_far (p := ⟨gb186, 3, none⟩) (Kd.R_far (p := ⟨gb186, 2, none⟩) (Kd.R_far (p := ⟨gb186, 1, none⟩) (Kd.R_far (p := ⟨gb186, 0, none⟩) (Kd.R_types HO_5.out BK186.out (by decide)) (fun _ hk => hk.2) (.int .i64 ((rd_T48 l0 x53_3).f0))) (fun _ hk => hk.2) (.int .i64 ((rd_T48 l0 x53_3).f1))) (fun _ hk => hk.2) (.int .i64 ((rd_T48 l0 x53_3).f2))) (fun _ hk => hk.2) (.int .i64 ((rd_T48 l0 x53_3).f3))) (fun _ hk => trivial)⟩, ⟨by (with_reducible repeat (first | refine blk_drewN ?_ _ | refine blk_drew ?_ | refine blk_alloc ?_ _)); refine blk_far ?_ NB183_186.out _; (with_reducible repeat (first | refine blk_drewN ?_ _ | refine blk_drew ?_ | refine blk_alloc ?_ _)); refine blk_far ?_ NB183_186.out _; (with_reducible repeat (first | refine blk_drewN ?_ _ | refine blk_drew ?_ | refine blk_alloc ?_ _)); refine blk_far ?_ NB183_186.out _; (with_reducible repeat (first | refine blk_drewN ?_ _ | refine blk_drew ?_ | refine blk_alloc ?_ _)); refine blk_far ?_ NB183_186.out _; (with_reducible repeat (first | refine blk_drewN ?_ _ | refine blk_drew ?_ | refine blk_alloc ?_ _)); exact BK183.out⟩, ⟨by (with_reducible repeat (first | refine blk_drewN ?_ _ | refine blk_drew ?_ | refine blk_alloc ?_ _)); refine blk_put (cs := #[.int .i64 ((rd_T48 l0 x53_3).f0), .int .i64 ((rd_T48 l0 x53_3).f1), .int .i64 ((rd_T48 l0 x53_3).f2), .int .i64 0]) ?_ 3 _ rfl; (with_reducible repeat (first | refine blk_drewN ?_ _ | refine blk_drew ?_ | refine blk_alloc ?_ _)); refine blk_put (cs := #[.int .i64 ((rd_T48 l0 x53_3).f0), .int .i64 ((rd_T48 l0 x53_3).f1), .int .i64 0, .int .i64 0]) ?_ 2 _ rfl; (with_reducible repeat (first | refine blk_drewN ?_ _ | refine blk_drew ?_ | refine blk_alloc ?_ _)); refine blk_put (cs := #[.int .i64 ((rd_T48 l0 x53_3).f0), .int .i64 0, .int .i64 0, .int .i64 0]) ?_ 1 _ rfl; (with_reducible repeat (first | refine blk_drewN ?_ _ | refine blk_drew ?_ | refine blk_alloc ?_ _)); refine blk_put (cs := #[.int .i64 0, .int .i64 0, .int .i64 0, .int .i64 0]) ?_ 0 _ rfl; (with_reducible repeat (first | refine blk_drewN ?_ _ | refine blk_drew ?_ | refine blk_alloc ?_ _)); exact BK186.out⟩, ⟨by repeat (first | (with_reducible first | exact HB.out | apply below_alloc | apply pw_below_drewN | apply below_drew1 | refine below_set ?_ GE183.out | refine below_set ?_ GE186.out) | exact HB.out)⟩⟩
                                      · rw [if_neg c34] at H
                                        have c34b0 : (((rd_T48 l0 x29_1).f2) == ((rd_T48 l0 x53_3).f2)) = false := beq_eq_false_iff_ne.mpr c34
                                        have c34b1 : (((rd_T48 l0 x29_1).f2) != ((rd_T48 l0 x53_3).f2)) = true := bne_iff_ne.mpr c34
                                        have H' := Aside0.mk H
                                        clear H
                                        have hnb45 := NB183_186.out
                                        have hnc45 := NB186_183.out
                                        have hcz46_0 : w30.cell? ⟨gb183, 0, none⟩ = some (.int .i64 ((rd_T48 l0 x29_1).f0)) := (blk_cell BK183.out 0).trans rfl
                                        have hcz46_1 : w30.cell? ⟨gb183, 1, none⟩ = some (.int .i64 ((rd_T48 l0 x29_1).f1)) := (blk_cell BK183.out 1).trans rfl
                                        have hcz46_2 : w30.cell? ⟨gb183, 2, none⟩ = some (.int .i64 ((rd_T48 l0 x29_1).f2)) := (blk_cell BK183.out 2).trans rfl
                                        have hcz46_3 : w30.cell? ⟨gb183, 3, none⟩ = some (.int .i64 ((rd_T48 l0 x29_1).f3)) := (blk_cell BK183.out 3).trans rfl
                                        have hfz46_0 := blk_frozen BK183.out 0
                                        have hfz46_1 := blk_frozen BK183.out 1
                                        have hfz46_2 := blk_frozen BK183.out 2
                                        have hfz46_3 := blk_frozen BK183.out 3
                                        have hcz47_0 : w30.cell? ⟨gb186, 0, none⟩ = some (.int .i64 0) := (blk_cell BK186.out 0).trans rfl
                                        have hcz47_1 : w30.cell? ⟨gb186, 1, none⟩ = some (.int .i64 0) := (blk_cell BK186.out 1).trans rfl
                                        have hcz47_2 : w30.cell? ⟨gb186, 2, none⟩ = some (.int .i64 0) := (blk_cell BK186.out 2).trans rfl
                                        have hcz47_3 : w30.cell? ⟨gb186, 3, none⟩ = some (.int .i64 0) := (blk_cell BK186.out 3).trans rfl
                                        have hfz47_0 := blk_frozen BK186.out 0
                                        have hfz47_1 := blk_frozen BK186.out 1
                                        have hfz47_2 := blk_frozen BK186.out 2
                                        have hfz47_3 := blk_frozen BK186.out 3
                                        go_wp2
                                        repeat (go_quiet (fail); try go_wp2)
                                        go_meet
                                        case rel => exact ⟨_, (false), (by first | rfl | (simp; done) | (simp [*]; done)), H', ⟨by have := HK1.out; have := HJ15.out; have := HK3.out; first | omega | exact Nat.le_refl _⟩, ⟨by (with_reducible repeat (first | apply Kd.R_alloc | apply Kd.R_drewN | apply Kd.R_drew)); exact Kd.R_mono (Kd.R_far (p := ⟨gb186, 3, none⟩) (Kd.R_far (p := ⟨gb186, 2, none⟩) (Kd.R_far (p := ⟨gb186, 1, none⟩) (Kd.R_far (p := ⟨gb186, 0, none⟩) (Kd.R_types HO_5.out BK186.out (by decide)) (fun _ hk => hk.2) (.int .i64 ((rd_T48 l0 x53_3).f0))) (fun _ hk => hk.2) (.int .i64 ((rd_T48 l0 x53_3).f1))) (fun _ hk => hk.2) (.int .i64 ((rd_T48 l0 x53_3).f2))) (fun _ hk => hk.2) (.int .i64 ((rd_T48 l0 x53_3).f3))) (fun _ hk => trivial)⟩, ⟨by (with_reducible repeat (first | refine blk_drewN ?_ _ | refine blk_drew ?_ | refine blk_alloc ?_ _)); refine blk_far ?_ NB183_186.out _; (with_reducible repeat (first | refine blk_drewN ?_ _ | refine blk_drew ?_ | refine blk_alloc ?_ _)); refine blk_far ?_ NB183_186.out _; (with_reducible repeat (first | refine blk_drewN ?_ _ | refine blk_drew ?_ | refine blk_alloc ?_ _)); refine blk_far ?_ NB183_186.out _; (with_reducible repeat (first | refine blk_drewN ?_ _ | refine blk_drew ?_ | refine blk_alloc ?_ _)); refine blk_far ?_ NB183_186.out _; (with_reducible repeat (first | refine blk_drewN ?_ _ | refine blk_drew ?_ | refine blk_alloc ?_ _)); exact BK183.out⟩, ⟨by (with_reducible repeat (first | refine blk_drewN ?_ _ | refine blk_drew ?_ | refine blk_alloc ?_ _)); refine blk_put (cs := #[.int .i64 ((rd_T48 l0 x53_3).f0), .int .i64 ((rd_T48 l0 x53_3).f1), .int .i64 ((rd_T48 l0 x53_3).f2), .int .i64 0]) ?_ 3 _ rfl; (with_reducible repeat (first | refine blk_drewN ?_ _ | refine blk_drew ?_ | refine blk_alloc ?_ _)); refine blk_put (cs := #[.int .i64 ((rd_T48 l0 x53_3).f0), .int .i64 ((rd_T48 l0 x53_3).f1), .int .i64 0, .int .i64 0]) ?_ 2 _ rfl; (with_reducible repeat (first | refine blk_drewN ?_ _ | refine blk_drew ?_ | refine blk_alloc ?_ _)); refine blk_put (cs := #[.int .i64 ((rd_T48 l0 x53_3).f0), .int .i64 0, .int .i64 0, .int .i64 0]) ?_ 1 _ rfl; (with_reducible repeat (first | refine blk_drewN ?_ _ | refine blk_drew ?_ | refine blk_alloc ?_ _)); refine blk_put (cs := #[.int .i64 0, .int .i64 0, .int .i64 0, .int .i64 0]) ?_ 0 _ rfl; (with_reducible repeat (first | refine blk_drewN ?_ _ | refine blk_drew ?_ | refine blk_alloc ?_ _)); exact BK186.out⟩, ⟨by repeat (first | (with_reducible first | exact HB.out | apply below_alloc | apply pw_below_drewN | apply below_drew1 | refine below_set ?_ GE183.out | refine below_set ?_ GE186.out) | exact HB.out)⟩⟩
                                    · rw [if_neg c33] at H
                                      have c33b0 : (((rd_T48 l0 x29_1).f0) == ((rd_T48 l0 x53_3).f0)) = false := beq_eq_false_iff_ne.mpr c33
                                      have c33b1 : (((rd_T48 l0 x29_1).f0) != ((rd_T48 l0 x53_3).f0)) = true := bne_iff_ne.mpr c33
                                      (first | rw [c33b0] | (simp only [i64_w, i32_w]; rw [c33b0]) | skip)
                                      have H' := Aside0.mk H
                                      clear H
                                      have hnb48 := NB183_186.out
                                      have hnc48 := NB186_183.out
                                      have hcz49_0 : w30.cell? ⟨gb183, 0, none⟩ = some (.int .i64 ((rd_T48 l0 x29_1).f0)) := (blk_cell BK183.out 0).trans rfl
                                      have hcz49_1 : w30.cell? ⟨gb183, 1, none⟩ = some (.int .i64 ((rd_T48 l0 x29_1).f1)) := (blk_cell BK183.out 1).trans rfl
                                      have hcz49_2 : w30.cell? ⟨gb183, 2, none⟩ = some (.int .i64 ((rd_T48 l0 x29_1).f2)) := (blk_cell BK183.out 2).trans rfl
                                      have hcz49_3 : w30.cell? ⟨gb183, 3, none⟩ = some (.int .i64 ((rd_T48 l0 x29_1).f3)) := (blk_cell BK183.out 3).trans rfl
                                      have hfz49_0 := blk_frozen BK183.out 0
                                      have hfz49_1 := blk_frozen BK183.out 1
                                      have hfz49_2 := blk_frozen BK183.out 2
                                      have hfz49_3 := blk_frozen BK183.out 3
                                      have hcz50_0 : w30.cell? ⟨gb186, 0, none⟩ = some (.int .i64 0) := (blk_cell BK186.out 0).trans rfl
                                      have hcz50_1 : w30.cell? ⟨gb186, 1, none⟩ = some (.int .i64 0) := (blk_cell BK186.out 1).trans rfl
                                      have hcz50_2 : w30.cell? ⟨gb186, 2, none⟩ = some (.int .i64 0) := (blk_cell BK186.out 2).trans rfl
                                      have hcz50_3 : w30.cell? ⟨gb186, 3, none⟩ = some (.int .i64 0) := (blk_cell BK186.out 3).trans rfl
                                      have hfz50_0 := blk_frozen BK186.out 0
                                      have hfz50_1 := blk_frozen BK186.out 1
                                      have hfz50_2 := blk_frozen BK186.out 2
                                      have hfz50_3 := blk_frozen BK186.out 3
                                      go_wp2
                                      repeat (go_quiet (fail); try go_wp2)
                                      go_meet
                                      case rel => exact ⟨_, (false), (by first | rfl | (simp; done) | (simp [*]; done)), H', ⟨by have := HK1.out; have := HJ15.out; have := HK3.out; first | omega | exact Nat.le_refl _⟩, ⟨by (with_reducible repeat (first | apply Kd.R_alloc | apply Kd.R_drewN | apply Kd.R_drew)); exact Kd.R_mono (Kd.R_far (p := ⟨gb186, 3, none⟩) (Kd.R_far (p := ⟨gb186, 2, none⟩) (Kd.R_far (p := ⟨gb186, 1, none⟩) (Kd.R_far (p := ⟨gb186, 0, none⟩) (Kd.R_types HO_5.out BK186.out (by decide)) (fun _ hk => hk.2) (.int .i64 ((rd_T48 l0 x53_3).f0))) (fun _ hk => hk.2) (.int .i64 ((rd_T48 l0 x53_3).f1))) (fun _ hk => hk.2) (.int .i64 ((rd_T48 l0 x53_3).f2))) (fun _ hk => hk.2) (.int .i64 ((rd_T48 l0 x53_3).f3))) (fun _ hk => trivial)⟩, ⟨by (with_reducible repeat (first | refine blk_drewN ?_ _ | refine blk_drew ?_ | refine blk_alloc ?_ _)); refine blk_far ?_ NB183_186.out _; (with_reducible repeat (first | refine blk_drewN ?_ _ | refine blk_drew ?_ | refine blk_alloc ?_ _)); refine blk_far ?_ NB183_186.out _; (with_reducible repeat (first | refine blk_drewN ?_ _ | refine blk_drew ?_ | refine blk_alloc ?_ _)); refine blk_far ?_ NB183_186.out _; (with_reducible repeat (first | refine blk_drewN ?_ _ | refine blk_drew ?_ | refine blk_alloc ?_ _)); refine blk_far ?_ NB183_186.out _; (with_reducible repeat (first | refine blk_drewN ?_ _ | refine blk_drew ?_ | refine blk_alloc ?_ _)); exact BK183.out⟩, ⟨by (with_reducible repeat (first | refine blk_drewN ?_ _ | refine blk_drew ?_ | refine blk_alloc ?_ _)); refine blk_put (cs := #[.int .i64 ((rd_T48 l0 x53_3).f0), .int .i64 ((rd_T48 l0 x53_3).f1), .int .i64 ((rd_T48 l0 x53_3).f2), .int .i64 0]) ?_ 3 _ rfl; (with_reducible repeat (first | refine blk_drewN ?_ _ | refine blk_drew ?_ | refine blk_alloc ?_ _)); refine blk_put (cs := #[.int .i64 ((rd_T48 l0 x53_3).f0), .int .i64 ((rd_T48 l0 x53_3).f1), .int .i64 0, .int .i64 0]) ?_ 2 _ rfl; (with_reducible repeat (first | refine blk_drewN ?_ _ | refine blk_drew ?_ | refine blk_alloc ?_ _)); refine blk_put (cs := #[.int .i64 ((rd_T48 l0 x53_3).f0), .int .i64 0, .int .i64 0, .int .i64 0]) ?_ 1 _ rfl; (with_reducible repeat (first | refine blk_drewN ?_ _ | refine blk_drew ?_ | refine blk_alloc ?_ _)); refine blk_put (cs := #[.int .i64 0, .int .i64 0, .int .i64 0, .int .i64 0]) ?_ 0 _ rfl; (with_reducible repeat (first | refine blk_drewN ?_ _ | refine blk_drew ?_ | refine blk_alloc ?_ _)); exact BK186.out⟩, ⟨by repeat (first | (with_reducible first | exact HB.out | apply below_alloc | apply pw_below_drewN | apply below_drew1 | refine below_set ?_ GE183.out | refine below_set ?_ GE186.out) | exact HB.out)⟩⟩
                                  case rest =>
                                    clear HC29
                                    try clear c1
                                    try clear p1
                                    try clear q1
                                    try clear hx1
                                    try clear c2
                                    try clear p2
                                    try clear c3
                                    try clear c4
                                    try clear c6
                                    try clear c7
                                    try clear c8
                                    try clear c8b0
                                    try clear c8b1
                                    try clear c8b2
                                    try clear c13
                                    try clear c13b0
                                    try clear c14
                                    try clear c14b0
                                    try clear c15
                                    try clear c15b0
                                    try clear p18
                                    try clear q18
                                    try clear hx18
                                    try clear c19
                                    try clear c19b0
                                    try clear c19b1
                                    try clear c20
                                    try clear c20b0
                                    try clear c20b1
                                    try clear c21
                                    try clear c21b0
                                    try clear c25
                                    try clear c26
                                    try clear c26b0
                                    try clear c27
                                    try clear c27b0
                                    try clear c28
                                    try clear c28b0
                                    try clear c31
                                    try clear c33
                                    try clear c33b0
                                    try clear c33b1
                                    try clear c34
                                    try clear c34b0
                                    try clear c34b1
                                    try clear c35
                                    try clear c35b0
                                    try clear c35b1
                                    try clear c36
                                    try clear c36b0
                                    try clear c37
                                    try clear c37b0
                                    try clear c38
                                    try clear c38b0
                                    try clear c39
                                    try clear c42
                                    try clear c45
                                    try clear c48
                                    try clear hcz18_0
                                    try clear hcz18_1
                                    try clear hcz18_2
                                    try clear hcz18_3
                                    try clear hcz22_0
                                    try clear hcz22_1
                                    try clear hcz22_2
                                    try clear hcz22_3
                                    try clear hcz23_0
                                    try clear hcz23_1
                                    try clear hcz23_2
                                    try clear hcz23_3
                                    try clear hcz24_0
                                    try clear hcz24_1
                                    try clear hcz24_2
                                    try clear hcz24_3
                                    try clear hcz32_0
                                    try clear hcz32_1
                                    try clear hcz32_2
                                    try clear hcz32_3
                                    try clear hcz40_0
                                    try clear hcz40_1
                                    try clear hcz40_2
                                    try clear hcz40_3
                                    try clear hcz41_0
                                    try clear hcz41_1
                                    try clear hcz41_2
                                    try clear hcz41_3
                                    try clear hcz43_0
                                    try clear hcz43_1
                                    try clear hcz43_2
                                    try clear hcz43_3
                                    try clear hcz44_0
                                    try clear hcz44_1
                                    try clear hcz44_2
                                    try clear hcz44_3
                                    try clear hcz46_0
                                    try clear hcz46_1
                                    try clear hcz46_2
                                    try clear hcz46_3
                                    try clear hcz47_0
                                    try clear hcz47_1
                                    try clear hcz47_2
                                    try clear hcz47_3
                                    try clear hcz49_0
                                    try clear hcz49_1
                                    try clear hcz49_2
                                    try clear hcz49_3
                                    try clear hcz50_0
                                    try clear hcz50_1
                                    try clear hcz50_2
                                    try clear hcz50_3
                                    try clear hfz18_0
                                    try clear hfz18_1
                                    try clear hfz18_2
                                    try clear hfz18_3
                                    try clear hfz22_0
                                    try clear hfz22_1
                                    try clear hfz22_2
                                    try clear hfz22_3
                                    try clear hfz23_0
                                    try clear hfz23_1
                                    try clear hfz23_2
                                    try clear hfz23_3
                                    try clear hfz24_0
                                    try clear hfz24_1
                                    try clear hfz24_2
                                    try clear hfz24_3
                                    try clear hfz32_0
                                    try clear hfz32_1
                                    try clear hfz32_2
                                    try clear hfz32_3
                                    try clear hfz40_0
                                    try clear hfz40_1
                                    try clear hfz40_2
                                    try clear hfz40_3
                                    try clear hfz41_0
                                    try clear hfz41_1
                                    try clear hfz41_2
                                    try clear hfz41_3
                                    try clear hfz43_0
                                    try clear hfz43_1
                                    try clear hfz43_2
                                    try clear hfz43_3
                                    try clear hfz44_0
                                    try clear hfz44_1
                                    try clear hfz44_2
                                    try clear hfz44_3
                                    try clear hfz46_0
                                    try clear hfz46_1
                                    try clear hfz46_2
                                    try clear hfz46_3
                                    try clear hfz47_0
                                    try clear hfz47_1
                                    try clear hfz47_2
                                    try clear hfz47_3
                                    try clear hfz49_0
                                    try clear hfz49_1
                                    try clear hfz49_2
                                    try clear hfz49_3
                                    try clear hfz50_0
                                    try clear hfz50_1
                                    try clear hfz50_2
                                    try clear hfz50_3
                                    try clear hx182_0
                                    try clear hx182_1
                                    try clear hx182_2
                                    try clear hx182_3
                                    try clear hx184_0
                                    try clear hx185_0
                                    try clear hx185_1
                                    try clear hx185_2
                                    try clear hx185_3
                                    try clear hx187_0
                                    try clear hx188_0
                                    try clear p1
                                    try clear p18
                                    try clear p182
                                    try clear p184
                                    try clear p185
                                    try clear p187
                                    try clear p188
                                    try clear p2
                                    try clear q1
                                    try clear q18
                                    try clear q182
                                    try clear q184
                                    try clear q185
                                    try clear q187
                                    try clear q188
                                    obtain ⟨kq, x87_28, rfl, HA, HJ28, HO_5, BK183, BK186, HB⟩ := hcut
                                    cases kq with
                                    | zero => exact absurd HA.out (by simp [scrimlaw18_FlexAlike.j3])
                                    | succ kj28 =>
                                      have H := HA.out
                                      clear HA
                                      simp only [scrimlaw18_FlexAlike.j3] at H
                                      by_cases c51 : x87_28 = true
                                      · subst c51
                                        have H1 : (some false) = some r := by rw [if_pos rfl] at H; exact H
                                        clear H
                                        have H := H1
                                        clear H1
                                        obtain rfl := Option.some.inj H
                                        go_wp2
                                        repeat (go_quiet (fail); try go_wp2)
                                        go_ret
                                        exact ⟨by first | rfl | (simp [errW_none, errW_some] <;> rfl) | (simp [*, errW_none, errW_some] <;> rfl), by repeat (first | (with_reducible first | exact HB.out | apply below_alloc | apply pw_below_drewN | apply below_drew1 | refine below_set ?_ GE183.out | refine below_set ?_ GE186.out) | exact HB.out)⟩
                                      · replace c51 := Bool.eq_false_iff.mpr c51
                                        subst c51
                                        have H1 : (if ((rd_T48 l0 x29_1).f0) = ((rd_T48 l0 x53_3).f0) then (if ((rd_T48 l0 x29_1).f2) ≥ ((rd_T48 l0 x53_3).f2) then (if ((rd_T48 l0 x29_1).f3) ≤ ((rd_T48 l0 x53_3).f3) then (if 0 ≤ x29_1 then (if x29_1 < (t178.length : Int) then (if 0 ≤ x53_3 then (if x53_3 < (t178.length : Int) then (if (rd t178 x29_1) < (rd t178 x53_3) then (some false) else (scrimlaw18_FlexAlike.l1 kj28 l0 t178 x29_1 l0 (l0.length : Int) x29_1 l0 (l0.length : Int) (wrap64 (x53_3 + 1)) ((rd_T48 l0 x29_1).f0) ((rd_T48 l0 x29_1).f1) ((rd_T48 l0 x29_1).f2) ((rd_T48 l0 x29_1).f3))) else (none)) else (none)) else (none)) else (none)) else (scrimlaw18_FlexAlike.l1 kj28 l0 t178 x29_1 l0 (l0.length : Int) x29_1 l0 (l0.length : Int) (wrap64 (x53_3 + 1)) ((rd_T48 l0 x29_1).f0) ((rd_T48 l0 x29_1).f1) ((rd_T48 l0 x29_1).f2) ((rd_T48 l0 x29_1).f3))) else (scrimlaw18_FlexAlike.l1 kj28 l0 t178 x29_1 l0 (l0.length : Int) x29_1 l0 (l0.length : Int) (wrap64 (x53_3 + 1)) ((rd_T48 l0 x29_1).f0) ((rd_T48 l0 x29_1).f1) ((rd_T48 l0 x29_1).f2) ((rd_T48 l0 x29_1).f3))) else (scrimlaw18_FlexAlike.l1 kj28 l0 t178 x29_1 l0 (l0.length : Int) x29_1 l0 (l0.length : Int) (wrap64 (x53_3 + 1)) ((rd_T48 l0 x29_1).f0) ((rd_T48 l0 x29_1).f1) ((rd_T48 l0 x29_1).f2) ((rd_T48 l0 x29_1).f3))) = some r := by rw [if_neg (show ¬ (false = true) by decide)] at H; exact H
                                        clear H
                                        have H := H1
                                        clear H1
                                        by_cases c52 : ((rd_T48 l0 x29_1).f0) = ((rd_T48 l0 x53_3).f0)
                                        · rw [if_pos c52] at H
                                          have c52b0 : (((rd_T48 l0 x29_1).f0) == ((rd_T48 l0 x53_3).f0)) = true := beq_iff_eq.mpr c52
                                          have c52b1 : (((rd_T48 l0 x29_1).f0) != ((rd_T48 l0 x53_3).f0)) = false := bne_eq_false_iff_eq.mpr c52
                                          clear c52
                                          by_cases c53 : ((rd_T48 l0 x29_1).f2) ≥ ((rd_T48 l0 x53_3).f2)
                                          · rw [if_pos c53] at H
                                            have c53b0 : decide (((rd_T48 l0 x53_3).f2) ≤ ((rd_T48 l0 x29_1).f2)) = true := decide_eq_true c53
                                            clear c53
                                            by_cases c54 : ((rd_T48 l0 x29_1).f3) ≤ ((rd_T48 l0 x53_3).f3)
                                            · rw [if_pos c54] at H
                                              have c54b0 : decide (((rd_T48 l0 x29_1).f3) ≤ ((rd_T48 l0 x53_3).f3)) = true := decide_eq_true c54
                                              clear c54
                                              by_cases c55 : 0 ≤ x29_1
                                              · rw [if_pos c55] at H
                                                have c55b0 : decide (0 ≤ x29_1) = true := decide_eq_true c55
                                                clear c55
                                                by_cases c56 : x29_1 < (t178.length : Int)
                                                · rw [if_pos c56] at H
                                                  have c56b0 : decide (x29_1 < (t178.length : Int)) = true := decide_eq_true c56
                                                  clear c56
                                                  by_cases c57 : 0 ≤ x53_3
                                                  · rw [if_pos c57] at H
                                                    have c57b0 : decide (0 ≤ x53_3) = true := decide_eq_true c57
                                                    clear c57
                                                    by_cases c58 : x53_3 < (t178.length : Int)
                                                    · rw [if_pos c58] at H
                                                      have c58b0 : decide (x53_3 < (t178.length : Int)) = true := decide_eq_true c58
                                                      clear c58
                                                      by_cases c59 : (rd t178 x29_1) < (rd t178 x53_3)
                                                      · rw [if_pos c59] at H
                                                        have c59b0 : decide ((rd t178 x29_1) < (rd t178 x53_3)) = true := decide_eq_true c59
                                                        clear c59
                                                        obtain rfl := Option.some.inj H
                                                        have hnb60 := NB183_186.out
                                                        have hnc60 := NB186_183.out
                                                        have hcz61_0 : wc.cell? ⟨gb183, 0, none⟩ = some (.int .i64 ((rd_T48 l0 x29_1).f0)) := (blk_cell BK183.out 0).trans rfl
                                                        have hcz61_1 : wc.cell? ⟨gb183, 1, none⟩ = some (.int .i64 ((rd_T48 l0 x29_1).f1)) := (blk_cell BK183.out 1).trans rfl
                                                        have hcz61_2 : wc.cell? ⟨gb183, 2, none⟩ = some (.int .i64 ((rd_T48 l0 x29_1).f2)) := (blk_cell BK183.out 2).trans rfl
                                                        have hcz61_3 : wc.cell? ⟨gb183, 3, none⟩ = some (.int .i64 ((rd_T48 l0 x29_1).f3)) := (blk_cell BK183.out 3).trans rfl
                                                        have hfz61_0 := blk_frozen BK183.out 0
                                                        have hfz61_1 := blk_frozen BK183.out 1
                                                        have hfz61_2 := blk_frozen BK183.out 2
                                                        have hfz61_3 := blk_frozen BK183.out 3
                                                        have hcz62_0 : wc.cell? ⟨gb186, 0, none⟩ = some (.int .i64 ((rd_T48 l0 x53_3).f0)) := (blk_cell BK186.out 0).trans rfl
                                                        have hcz62_1 : wc.cell? ⟨gb186, 1, none⟩ = some (.int .i64 ((rd_T48 l0 x53_3).f1)) := (blk_cell BK186.out 1).trans rfl
                                                        have hcz62_2 : wc.cell? ⟨gb186, 2, none⟩ = some (.int .i64 ((rd_T48 l0 x53_3).f2)) := (blk_cell BK186.out 2).trans rfl
                                                        have hcz62_3 : wc.cell? ⟨gb186, 3, none⟩ = some (.int .i64 ((rd_T48 l0 x53_3).f3)) := (blk_cell BK186.out 3).trans rfl
                                                        have hfz62_0 := blk_frozen BK186.out 0
                                                        have hfz62_1 := blk_frozen BK186.out 1
                                                        have hfz62_2 := blk_frozen BK186.out 2
                                                        have hfz62_3 := blk_frozen BK186.out 3
                                                        have p189 : 0 ≤ (x29_1 : Int) := of_decide_eq_true (by first | (with_reducible assumption) | assumption)
                                                        have q189 : x29_1 < (t178.length : Int) := of_decide_eq_true (by first | (with_reducible assumption) | assumption)
                                                        obtain ⟨ad189, e189, hx189_0⟩ := Kd.at_int (Kd.R_reads' HO_5.out).2.2 x29_1 p189 q189
                                                        cases e189
                                                        replace p189 := eq_true p189
                                                        replace q189 := eq_true q189
                                                        have p190 : 0 ≤ (x53_3 : Int) := of_decide_eq_true (by first | (with_reducible assumption) | assumption)
                                                        have q190 : x53_3 < (t178.length : Int) := of_decide_eq_true (by first | (with_reducible assumption) | assumption)
                                                        obtain ⟨ad190, e190, hx190_0⟩ := Kd.at_int (Kd.R_reads' HO_5.out).2.2 x53_3 p190 q190
                                                        obtain rfl : ad189 = ad190 := (by injection e190)
                                                        replace p190 := eq_true p190
                                                        replace q190 := eq_true q190
                                                        go_wp2
                                                        repeat (go_quiet (fail); try go_wp2)
                                                        go_ret
                                                        exact ⟨by first | rfl | (simp [errW_none, errW_some] <;> rfl) | (simp [*, errW_none, errW_some] <;> rfl), by repeat (first | (with_reducible first | exact HB.out | apply below_alloc | apply pw_below_drewN | apply below_drew1 | refine below_set ?_ GE183.out | refine below_set ?_ GE186.out) | exact HB.out)⟩
                                                      · rw [if_neg c59] at H
                                                        have c59b0 : decide ((rd t178 x29_1) < (rd t178 x53_3)) = false := decide_eq_false c59
                                                        clear c59
                                                        have H' := Aside0.mk H
                                                        clear H
                                                        have hnb63 := NB183_186.out
                                                        have hnc63 := NB186_183.out
                                                        have hcz64_0 : wc.cell? ⟨gb183, 0, none⟩ = some (.int .i64 ((rd_T48 l0 x29_1).f0)) := (blk_cell BK183.out 0).trans rfl
                                                        have hcz64_1 : wc.cell? ⟨gb183, 1, none⟩ = some (.int .i64 ((rd_T48 l0 x29_1).f1)) := (blk_cell BK183.out 1).trans rfl
                                                        have hcz64_2 : wc.cell? ⟨gb183, 2, none⟩ = some (.int .i64 ((rd_T48 l0 x29_1).f2)) := (blk_cell BK183.out 2).trans rfl
                                                        have hcz64_3 : wc.cell? ⟨gb183, 3, none⟩ = some (.int .i64 ((rd_T48 l0 x29_1).f3)) := (blk_cell BK183.out 3).trans rfl
                                                        have hfz64_0 := blk_frozen BK183.out 0
                                                        have hfz64_1 := blk_frozen BK183.out 1
                                                        have hfz64_2 := blk_frozen BK183.out 2
                                                        have hfz64_3 := blk_frozen BK183.out 3
                                                        have hcz65_0 : wc.cell? ⟨gb186, 0, none⟩ = some (.int .i64 ((rd_T48 l0 x53_3).f0)) := (blk_cell BK186.out 0).trans rfl
                                                        have hcz65_1 : wc.cell? ⟨gb186, 1, none⟩ = some (.int .i64 ((rd_T48 l0 x53_3).f1)) := (blk_cell BK186.out 1).trans rfl
                                                        have hcz65_2 : wc.cell? ⟨gb186, 2, none⟩ = some (.int .i64 ((rd_T48 l0 x53_3).f2)) := (blk_cell BK186.out 2).trans rfl
                                                        have hcz65_3 : wc.cell? ⟨gb186, 3, none⟩ = some (.int .i64 ((rd_T48 l0 x53_3).f3)) := (blk_cell BK186.out 3).trans rfl
                                                        have hfz65_0 := blk_frozen BK186.out 0
                                                        have hfz65_1 := blk_frozen BK186.out 1
                                                        have hfz65_2 := blk_frozen BK186.out 2
                                                        have hfz65_3 := blk_frozen BK186.out 3
                                                        have p189 : 0 ≤ (x29_1 : Int) := of_decide_eq_true (by first | (with_reducible assumption) | assumption)
                                                        have q189 : x29_1 < (t178.length : Int) := of_decide_eq_true (by first | (with_reducible assumption) | assumption)
                                                        obtain ⟨ad189, e189, hx189_0⟩ := Kd.at_int (Kd.R_reads' HO_5.out).2.2 x29_1 p189 q189
                                                        cases e189
                                                        replace p189 := eq_true p189
                                                        replace q189 := eq_true q189
                                                        have p190 : 0 ≤ (x53_3 : Int) := of_decide_eq_true (by first | (with_reducible assumption) | assumption)
                                                        have q190 : x53_3 < (t178.length : Int) := of_decide_eq_true (by first | (with_reducible assumption) | assumption)
                                                        obtain ⟨ad190, e190, hx190_0⟩ := Kd.at_int (Kd.R_reads' HO_5.out).2.2 x53_3 p190 q190
                                                        obtain rfl : ad189 = ad190 := (by injection e190)
                                                        replace p190 := eq_true p190
                                                        replace q190 := eq_true q190
                                                        go_wp2
                                                        repeat (go_quiet (fail); try go_wp2)
                                                        go_roundg kj28
                                                        case measure => have := HK1.out; have := HJ15.out; have := HK3.out; have := HJ28.out; omega
                                                        case rel => exact ⟨(wrap64 (x53_3 + 1)), (by first | rfl | (simp; done) | (simp [*]; done)), H', ⟨by have := HK1.out; have := HJ15.out; have := HK3.out; have := HJ28.out; omega⟩, ⟨by (with_reducible repeat (first | apply Kd.R_alloc | apply Kd.R_drewN | apply Kd.R_drew)); exact HO_5.out⟩, ⟨by (with_reducible repeat (first | refine blk_drewN ?_ _ | refine blk_drew ?_ | refine blk_alloc ?_ _)); exact BK183.out⟩, ⟨by repeat (first | (with_reducible first | exact HB.out | apply below_alloc | apply pw_below_drewN | apply below_drew1 | refine below_set ?_ GE183.out | refine below_set ?_ GE186.out) | exact HB.out)⟩⟩
                                                    · rw [if_neg c58] at H
                                                      exact absurd H (by simp)
                                                  · rw [if_neg c57] at H
                                                    exact absurd H (by simp)
                                                · rw [if_neg c56] at H
                                                  exact absurd H (by simp)
                                              · rw [if_neg c55] at H
                                                exact absurd H (by simp)
                                            · rw [if_neg c54] at H
                                              have c54b0 : decide (((rd_T48 l0 x29_1).f3) ≤ ((rd_T48 l0 x53_3).f3)) = false := decide_eq_false c54
                                              clear c54
                                              have H' := Aside0.mk H
                                              clear H
                                              have hnb66 := NB183_186.out
                                              have hnc66 := NB186_183.out
                                              have hcz67_0 : wc.cell? ⟨gb183, 0, none⟩ = some (.int .i64 ((rd_T48 l0 x29_1).f0)) := (blk_cell BK183.out 0).trans rfl
                                              have hcz67_1 : wc.cell? ⟨gb183, 1, none⟩ = some (.int .i64 ((rd_T48 l0 x29_1).f1)) := (blk_cell BK183.out 1).trans rfl
                                              have hcz67_2 : wc.cell? ⟨gb183, 2, none⟩ = some (.int .i64 ((rd_T48 l0 x29_1).f2)) := (blk_cell BK183.out 2).trans rfl
                                              have hcz67_3 : wc.cell? ⟨gb183, 3, none⟩ = some (.int .i64 ((rd_T48 l0 x29_1).f3)) := (blk_cell BK183.out 3).trans rfl
                                              have hfz67_0 := blk_frozen BK183.out 0
                                              have hfz67_1 := blk_frozen BK183.out 1
                                              have hfz67_2 := blk_frozen BK183.out 2
                                              have hfz67_3 := blk_frozen BK183.out 3
                                              have hcz68_0 : wc.cell? ⟨gb186, 0, none⟩ = some (.int .i64 ((rd_T48 l0 x53_3).f0)) := (blk_cell BK186.out 0).trans rfl
                                              have hcz68_1 : wc.cell? ⟨gb186, 1, none⟩ = some (.int .i64 ((rd_T48 l0 x53_3).f1)) := (blk_cell BK186.out 1).trans rfl
                                              have hcz68_2 : wc.cell? ⟨gb186, 2, none⟩ = some (.int .i64 ((rd_T48 l0 x53_3).f2)) := (blk_cell BK186.out 2).trans rfl
                                              have hcz68_3 : wc.cell? ⟨gb186, 3, none⟩ = some (.int .i64 ((rd_T48 l0 x53_3).f3)) := (blk_cell BK186.out 3).trans rfl
                                              have hfz68_0 := blk_frozen BK186.out 0
                                              have hfz68_1 := blk_frozen BK186.out 1
                                              have hfz68_2 := blk_frozen BK186.out 2
                                              have hfz68_3 := blk_frozen BK186.out 3
                                              go_wp2
                                              repeat (go_quiet (fail); try go_wp2)
                                              go_roundg kj28
                                              case measure => have := HK1.out; have := HJ15.out; have := HK3.out; have := HJ28.out; omega
                                              case rel => exact ⟨(wrap64 (x53_3 + 1)), (by first | rfl | (simp; done) | (simp [*]; done)), H', ⟨by have := HK1.out; have := HJ15.out; have := HK3.out; have := HJ28.out; omega⟩, ⟨by (with_reducible repeat (first | apply Kd.R_alloc | apply Kd.R_drewN | apply Kd.R_drew)); exact HO_5.out⟩, ⟨by (with_reducible repeat (first | refine blk_drewN ?_ _ | refine blk_drew ?_ | refine blk_alloc ?_ _)); exact BK183.out⟩, ⟨by repeat (first | (with_reducible first | exact HB.out | apply below_alloc | apply pw_below_drewN | apply below_drew1 | refine below_set ?_ GE183.out | refine below_set ?_ GE186.out) | exact HB.out)⟩⟩
                                          · rw [if_neg c53] at H
                                            have c53b0 : decide (((rd_T48 l0 x53_3).f2) ≤ ((rd_T48 l0 x29_1).f2)) = false := decide_eq_false c53
                                            clear c53
                                            have H' := Aside0.mk H
                                            clear H
                                            have hnb69 := NB183_186.out
                                            have hnc69 := NB186_183.out
                                            have hcz70_0 : wc.cell? ⟨gb183, 0, none⟩ = some (.int .i64 ((rd_T48 l0 x29_1).f0)) := (blk_cell BK183.out 0).trans rfl
                                            have hcz70_1 : wc.cell? ⟨gb183, 1, none⟩ = some (.int .i64 ((rd_T48 l0 x29_1).f1)) := (blk_cell BK183.out 1).trans rfl
                                            have hcz70_2 : wc.cell? ⟨gb183, 2, none⟩ = some (.int .i64 ((rd_T48 l0 x29_1).f2)) := (blk_cell BK183.out 2).trans rfl
                                            have hcz70_3 : wc.cell? ⟨gb183, 3, none⟩ = some (.int .i64 ((rd_T48 l0 x29_1).f3)) := (blk_cell BK183.out 3).trans rfl
                                            have hfz70_0 := blk_frozen BK183.out 0
                                            have hfz70_1 := blk_frozen BK183.out 1
                                            have hfz70_2 := blk_frozen BK183.out 2
                                            have hfz70_3 := blk_frozen BK183.out 3
                                            have hcz71_0 : wc.cell? ⟨gb186, 0, none⟩ = some (.int .i64 ((rd_T48 l0 x53_3).f0)) := (blk_cell BK186.out 0).trans rfl
                                            have hcz71_1 : wc.cell? ⟨gb186, 1, none⟩ = some (.int .i64 ((rd_T48 l0 x53_3).f1)) := (blk_cell BK186.out 1).trans rfl
                                            have hcz71_2 : wc.cell? ⟨gb186, 2, none⟩ = some (.int .i64 ((rd_T48 l0 x53_3).f2)) := (blk_cell BK186.out 2).trans rfl
                                            have hcz71_3 : wc.cell? ⟨gb186, 3, none⟩ = some (.int .i64 ((rd_T48 l0 x53_3).f3)) := (blk_cell BK186.out 3).trans rfl
                                            have hfz71_0 := blk_frozen BK186.out 0
                                            have hfz71_1 := blk_frozen BK186.out 1
                                            have hfz71_2 := blk_frozen BK186.out 2
                                            have hfz71_3 := blk_frozen BK186.out 3
                                            go_wp2
                                            repeat (go_quiet (fail); try go_wp2)
                                            go_roundg kj28
                                            case measure => have := HK1.out; have := HJ15.out; have := HK3.out; have := HJ28.out; omega
                                            case rel => exact ⟨(wrap64 (x53_3 + 1)), (by first | rfl | (simp; done) | (simp [*]; done)), H', ⟨by have := HK1.out; have := HJ15.out; have := HK3.out; have := HJ28.out; omega⟩, ⟨by (with_reducible repeat (first | apply Kd.R_alloc | apply Kd.R_drewN | apply Kd.R_drew)); exact HO_5.out⟩, ⟨by (with_reducible repeat (first | refine blk_drewN ?_ _ | refine blk_drew ?_ | refine blk_alloc ?_ _)); exact BK183.out⟩, ⟨by repeat (first | (with_reducible first | exact HB.out | apply below_alloc | apply pw_below_drewN | apply below_drew1 | refine below_set ?_ GE183.out | refine below_set ?_ GE186.out) | exact HB.out)⟩⟩
                                        · rw [if_neg c52] at H
                                          have c52b0 : (((rd_T48 l0 x29_1).f0) == ((rd_T48 l0 x53_3).f0)) = false := beq_eq_false_iff_ne.mpr c52
                                          have c52b1 : (((rd_T48 l0 x29_1).f0) != ((rd_T48 l0 x53_3).f0)) = true := bne_iff_ne.mpr c52
                                          have H' := Aside0.mk H
                                          clear H
                                          have hnb72 := NB183_186.out
                                          have hnc72 := NB186_183.out
                                          have hcz73_0 : wc.cell? ⟨gb183, 0, none⟩ = some (.int .i64 ((rd_T48 l0 x29_1).f0)) := (blk_cell BK183.out 0).trans rfl
                                          have hcz73_1 : wc.cell? ⟨gb183, 1, none⟩ = some (.int .i64 ((rd_T48 l0 x29_1).f1)) := (blk_cell BK183.out 1).trans rfl
                                          have hcz73_2 : wc.cell? ⟨gb183, 2, none⟩ = some (.int .i64 ((rd_T48 l0 x29_1).f2)) := (blk_cell BK183.out 2).trans rfl
                                          have hcz73_3 : wc.cell? ⟨gb183, 3, none⟩ = some (.int .i64 ((rd_T48 l0 x29_1).f3)) := (blk_cell BK183.out 3).trans rfl
                                          have hfz73_0 := blk_frozen BK183.out 0
                                          have hfz73_1 := blk_frozen BK183.out 1
                                          have hfz73_2 := blk_frozen BK183.out 2
                                          have hfz73_3 := blk_frozen BK183.out 3
                                          have hcz74_0 : wc.cell? ⟨gb186, 0, none⟩ = some (.int .i64 ((rd_T48 l0 x53_3).f0)) := (blk_cell BK186.out 0).trans rfl
                                          have hcz74_1 : wc.cell? ⟨gb186, 1, none⟩ = some (.int .i64 ((rd_T48 l0 x53_3).f1)) := (blk_cell BK186.out 1).trans rfl
                                          have hcz74_2 : wc.cell? ⟨gb186, 2, none⟩ = some (.int .i64 ((rd_T48 l0 x53_3).f2)) := (blk_cell BK186.out 2).trans rfl
                                          have hcz74_3 : wc.cell? ⟨gb186, 3, none⟩ = some (.int .i64 ((rd_T48 l0 x53_3).f3)) := (blk_cell BK186.out 3).trans rfl
                                          have hfz74_0 := blk_frozen BK186.out 0
                                          have hfz74_1 := blk_frozen BK186.out 1
                                          have hfz74_2 := blk_frozen BK186.out 2
                                          have hfz74_3 := blk_frozen BK186.out 3
                                          go_wp2
                                          repeat (go_quiet (fail); try go_wp2)
                                          go_roundg kj28
                                          case measure => have := HK1.out; have := HJ15.out; have := HK3.out; have := HJ28.out; omega
                                          case rel => exact ⟨(wrap64 (x53_3 + 1)), (by first | rfl | (simp; done) | (simp [*]; done)), H', ⟨by have := HK1.out; have := HJ15.out; have := HK3.out; have := HJ28.out; omega⟩, ⟨by (with_reducible repeat (first | apply Kd.R_alloc | apply Kd.R_drewN | apply Kd.R_drew)); exact HO_5.out⟩, ⟨by (with_reducible repeat (first | refine blk_drewN ?_ _ | refine blk_drew ?_ | refine blk_alloc ?_ _)); exact BK183.out⟩, ⟨by repeat (first | (with_reducible first | exact HB.out | apply below_alloc | apply pw_below_drewN | apply below_drew1 | refine below_set ?_ GE183.out | refine below_set ?_ GE186.out) | exact HB.out)⟩⟩
                                · rw [if_neg c28] at H
                                  exact absurd H (by simp)
                              · rw [if_neg c27] at H
                                exact absurd H (by simp)
                            · rw [if_neg c26] at H
                              have c26b0 : decide (x53_3 < (l0.length : Int)) = false := decide_eq_false c26
                              clear c26
                              have H' := Aside0.mk H
                              clear H
                              go_wp2
                              repeat (go_quiet (fail); try go_wp2)
                              go_roundg k3
                              case measure => have := HK1.out; have := HJ15.out; have := HK3.out; omega
                              case rel => exact ⟨(wrap64 (x29_1 + 1)), (by first | rfl | (simp; done) | (simp [*]; done)), H', ⟨by have := HK1.out; have := HJ15.out; have := HK3.out; omega⟩, ⟨by (with_reducible repeat (first | apply Kd.R_alloc | apply Kd.R_drewN | apply Kd.R_drew)); exact HO_5.out⟩, ⟨by repeat (first | (with_reducible first | exact HB.out | apply below_alloc | apply pw_below_drewN | apply below_drew1 | refine below_set ?_ GE183.out) | exact HB.out)⟩⟩
                · rw [if_neg c15] at H
                  exact absurd H (by simp)
              · rw [if_neg c14] at H
                exact absurd H (by simp)
            · rw [if_neg c13] at H
              have c13b0 : decide (x29_1 < (l0.length : Int)) = false := decide_eq_false c13
              clear c13
              obtain rfl := Option.some.inj H
              go_wp2
              repeat (go_quiet (fail); try go_wp2)
              go_ret
              exact ⟨by first | rfl | (simp [errW_none, errW_some] <;> rfl) | (simp [*, errW_none, errW_some] <;> rfl), by repeat (first | (with_reducible first | exact HB.out | apply below_alloc | apply pw_below_drewN | apply below_drew1) | exact HB.out)⟩
      · rw [if_neg c8] at H
        have c8b0 : ((t178.length : Int) == (l0.length : Int)) = false := beq_eq_false_iff_ne.mpr c8
        have c8b1 : ((t178.length : Int) != (l0.length : Int)) = true := bne_iff_ne.mpr c8
        have c8b2 : (t178.length == l0.length) = false := by first | simpa using c8 | (simp at c8 ⊢; omega)
        obtain rfl := Option.some.inj H
        go_enter Try.func7, Try.ntmps7
        go_wp2_with (first | (go_at_call 14; (with_reducible refine (scrimlaw18_awake.calls k  true _ A3.out).mono ?_); rintro e w75 ⟨rfl, hb⟩; have n0_ := Aside0.mk (below_step (by repeat (first | (with_reducible first | exact HB.out | apply below_alloc | apply pw_below_drewN | apply below_drew1) | exact HB.out)) hb); clear HB; have HB := n0_; clear n0_; (try clear hb); (try clear hb2); (try clear hk); (try clear hi)) | (go_at_call 24; (with_reducible refine (scrimlaw18_small.calls k _ _ l0 true _ ?side1 ?side2 A5.out).mono ?_); (case side1 => repeat (first | exact (Kd.C_below HR0.out HB.out) | (with_reducible refine Kd.C_alloc ?_ _) | (with_reducible refine Kd.C_drewN ?_ _) | (with_reducible refine Kd.C_drew ?_))); (case side2 => exact HC0.out); rintro e w76 ⟨rfl, hb⟩; have n0_ := Aside0.mk (below_step (by repeat (first | (with_reducible first | exact HB.out | apply below_alloc | apply pw_below_drewN | apply below_drew1) | exact HB.out)) hb); clear HB; have HB := n0_; clear n0_; (try clear hb); (try clear hb2); (try clear hk); (try clear hi)) | (go_at_call 15; (with_reducible refine (flex_Share.calls k _ _ l0 a1 t178 t179 _ ?side1 ?side2 A7.out).mono ?_); (case side1 => repeat (first | exact (Kd.C_below HR0.out HB.out) | (with_reducible refine Kd.C_alloc ?_ _) | (with_reducible refine Kd.C_drewN ?_ _) | (with_reducible refine Kd.C_drew ?_))); (case side2 => exact HC0.out); rintro e w77 ⟨v180, rfl, ho0, hb⟩; have n0_ := Aside0.mk (Kd.R_lower ho0 (below_size (by repeat (first | (with_reducible first | exact HB.out | apply below_alloc | apply pw_below_drewN | apply below_drew1) | exact HB.out)))); have n1_ := Aside0.mk (below_step (by repeat (first | (with_reducible first | exact HB.out | apply below_alloc | apply pw_below_drewN | apply below_drew1) | exact HB.out)) hb); clear HB; have HO181 := n0_; have HB := n1_; clear n0_ n1_; (try clear hb); (try clear hb2); (try clear hk); (try clear hi); (try clear ho0); obtain ⟨Ao78, co78, eo78⟩ := Kd.R_slice HO181.out; subst eo78))
        repeat (go_quiet (first | (go_at_call 14; (with_reducible refine (scrimlaw18_awake.calls k  true _ A3.out).mono ?_); rintro e w75 ⟨rfl, hb⟩; have n0_ := Aside0.mk (below_step (by repeat (first | (with_reducible first | exact HB.out | apply below_alloc | apply pw_below_drewN | apply below_drew1) | exact HB.out)) hb); clear HB; have HB := n0_; clear n0_; (try clear hb); (try clear hb2); (try clear hk); (try clear hi)) | (go_at_call 24; (with_reducible refine (scrimlaw18_small.calls k _ _ l0 true _ ?side1 ?side2 A5.out).mono ?_); (case side1 => repeat (first | exact (Kd.C_below HR0.out HB.out) | (with_reducible refine Kd.C_alloc ?_ _) | (with_reducible refine Kd.C_drewN ?_ _) | (with_reducible refine Kd.C_drew ?_))); (case side2 => exact HC0.out); rintro e w76 ⟨rfl, hb⟩; have n0_ := Aside0.mk (below_step (by repeat (first | (with_reducible first | exact HB.out | apply below_alloc | apply pw_below_drewN | apply below_drew1) | exact HB.out)) hb); clear HB; have HB := n0_; clear n0_; (try clear hb); (try clear hb2); (try clear hk); (try clear hi)) | (go_at_call 15; (with_reducible refine (flex_Share.calls k _ _ l0 a1 t178 t179 _ ?side1 ?side2 A7.out).mono ?_); (case side1 => repeat (first | exact (Kd.C_below HR0.out HB.out) | (with_reducible refine Kd.C_alloc ?_ _) | (with_reducible refine Kd.C_drewN ?_ _) | (with_reducible refine Kd.C_drew ?_))); (case side2 => exact HC0.out); rintro e w77 ⟨v180, rfl, ho0, hb⟩; have n0_ := Aside0.mk (Kd.R_lower ho0 (below_size (by repeat (first | (with_reducible first | exact HB.out | apply below_alloc | apply pw_below_drewN | apply below_drew1) | exact HB.out)))); have n1_ := Aside0.mk (below_step (by repeat (first | (with_reducible first | exact HB.out | apply below_alloc | apply pw_below_drewN | apply below_drew1) | exact HB.out)) hb); clear HB; have HO181 := n0_; have HB := n1_; clear n0_ n1_; (try clear hb); (try clear hb2); (try clear hk); (try clear hi); (try clear ho0); obtain ⟨Ao78, co78, eo78⟩ := Kd.R_slice HO181.out; subst eo78)); try go_wp2_with (first | (go_at_call 14; (with_reducible refine (scrimlaw18_awake.calls k  true _ A3.out).mono ?_); rintro e w75 ⟨rfl, hb⟩; have n0_ := Aside0.mk (below_step (by repeat (first | (with_reducible first | exact HB.out | apply below_alloc | apply pw_below_drewN | apply below_drew1) | exact HB.out)) hb); clear HB; have HB := n0_; clear n0_; (try clear hb); (try clear hb2); (try clear hk); (try clear hi)) | (go_at_call 24; (with_reducible refine (scrimlaw18_small.calls k _ _ l0 true _ ?side1 ?side2 A5.out).mono ?_); (case side1 => repeat (first | exact (Kd.C_below HR0.out HB.out) | (with_reducible refine Kd.C_alloc ?_ _) | (with_reducible refine Kd.C_drewN ?_ _) | (with_reducible refine Kd.C_drew ?_))); (case side2 => exact HC0.out); rintro e w76 ⟨rfl, hb⟩; have n0_ := Aside0.mk (below_step (by repeat (first | (with_reducible first | exact HB.out | apply below_alloc | apply pw_below_drewN | apply below_drew1) | exact HB.out)) hb); clear HB; have HB := n0_; clear n0_; (try clear hb); (try clear hb2); (try clear hk); (try clear hi)) | (go_at_call 15; (with_reducible refine (flex_Share.calls k _ _ l0 a1 t178 t179 _ ?side1 ?side2 A7.out).mono ?_); (case side1 => repeat (first | exact (Kd.C_below HR0.out HB.out) | (with_reducible refine Kd.C_alloc ?_ _) | (with_reducible refine Kd.C_drewN ?_ _) | (with_reducible refine Kd.C_drew ?_))); (case side2 => exact HC0.out); rintro e w77 ⟨v180, rfl, ho0, hb⟩; have n0_ := Aside0.mk (Kd.R_lower ho0 (below_size (by repeat (first | (with_reducible first | exact HB.out | apply below_alloc | apply pw_below_drewN | apply below_drew1) | exact HB.out)))); have n1_ := Aside0.mk (below_step (by repeat (first | (with_reducible first | exact HB.out | apply below_alloc | apply pw_below_drewN | apply below_drew1) | exact HB.out)) hb); clear HB; have HO181 := n0_; have HB := n1_; clear n0_ n1_; (try clear hb); (try clear hb2); (try clear hk); (try clear hi); (try clear ho0); obtain ⟨Ao78, co78, eo78⟩ := Kd.R_slice HO181.out; subst eo78)))
        go_ret
        exact ⟨by first | rfl | (simp [errW_none, errW_some] <;> rfl) | (simp [*, errW_none, errW_some] <;> rfl), by repeat (first | (with_reducible first | exact HB.out | apply below_alloc | apply pw_below_drewN | apply below_drew1) | exact HB.out)⟩
    · replace c6 := Bool.eq_false_iff.mpr c6
      subst c6
      have H1 : (some true) = some r := by rw [if_neg (show ¬ (false = true) by decide)] at H; exact H
      clear H
      have H := H1
      clear H1
      obtain rfl := Option.some.inj H
      go_enter Try.func7, Try.ntmps7
      go_wp2_with (first | (go_at_call 14; (with_reducible refine (scrimlaw18_awake.calls k  true _ A3.out).mono ?_); rintro e w79 ⟨rfl, hb⟩; have n0_ := Aside0.mk (below_step (by repeat (first | (with_reducible first | exact HB.out | apply below_alloc | apply pw_below_drewN | apply below_drew1) | exact HB.out)) hb); clear HB; have HB := n0_; clear n0_; (try clear hb); (try clear hb2); (try clear hk); (try clear hi)) | (go_at_call 24; (with_reducible refine (scrimlaw18_small.calls k _ _ l0 false _ ?side1 ?side2 A5.out).mono ?_); (case side1 => repeat (first | exact (Kd.C_below HR0.out HB.out) | (with_reducible refine Kd.C_alloc ?_ _) | (with_reducible refine Kd.C_drewN ?_ _) | (with_reducible refine Kd.C_drew ?_))); (case side2 => exact HC0.out); rintro e w80 ⟨rfl, hb⟩; have n0_ := Aside0.mk (below_step (by repeat (first | (with_reducible first | exact HB.out | apply below_alloc | apply pw_below_drewN | apply below_drew1) | exact HB.out)) hb); clear HB; have HB := n0_; clear n0_; (try clear hb); (try clear hb2); (try clear hk); (try clear hi)))
      repeat (go_quiet (first | (go_at_call 14; (with_reducible refine (scrimlaw18_awake.calls k  true _ A3.out).mono ?_); rintro e w79 ⟨rfl, hb⟩; have n0_ := Aside0.mk (below_step (by repeat (first | (with_reducible first | exact HB.out | apply below_alloc | apply pw_below_drewN | apply below_drew1) | exact HB.out)) hb); clear HB; have HB := n0_; clear n0_; (try clear hb); (try clear hb2); (try clear hk); (try clear hi)) | (go_at_call 24; (with_reducible refine (scrimlaw18_small.calls k _ _ l0 false _ ?side1 ?side2 A5.out).mono ?_); (case side1 => repeat (first | exact (Kd.C_below HR0.out HB.out) | (with_reducible refine Kd.C_alloc ?_ _) | (with_reducible refine Kd.C_drewN ?_ _) | (with_reducible refine Kd.C_drew ?_))); (case side2 => exact HC0.out); rintro e w80 ⟨rfl, hb⟩; have n0_ := Aside0.mk (below_step (by repeat (first | (with_reducible first | exact HB.out | apply below_alloc | apply pw_below_drewN | apply below_drew1) | exact HB.out)) hb); clear HB; have HB := n0_; clear n0_; (try clear hb); (try clear hb2); (try clear hk); (try clear hi))); try go_wp2_with (first | (go_at_call 14; (with_reducible refine (scrimlaw18_awake.calls k  true _ A3.out).mono ?_); rintro e w79 ⟨rfl, hb⟩; have n0_ := Aside0.mk (below_step (by repeat (first | (with_reducible first | exact HB.out | apply below_alloc | apply pw_below_drewN | apply below_drew1) | exact HB.out)) hb); clear HB; have HB := n0_; clear n0_; (try clear hb); (try clear hb2); (try clear hk); (try clear hi)) | (go_at_call 24; (with_reducible refine (scrimlaw18_small.calls k _ _ l0 false _ ?side1 ?side2 A5.out).mono ?_); (case side1 => repeat (first | exact (Kd.C_below HR0.out HB.out) | (with_reducible refine Kd.C_alloc ?_ _) | (with_reducible refine Kd.C_drewN ?_ _) | (with_reducible refine Kd.C_drew ?_))); (case side2 => exact HC0.out); rintro e w80 ⟨rfl, hb⟩; have n0_ := Aside0.mk (below_step (by repeat (first | (with_reducible first | exact HB.out | apply below_alloc | apply pw_below_drewN | apply below_drew1) | exact HB.out)) hb); clear HB; have HB := n0_; clear n0_; (try clear hb); (try clear hb2); (try clear hk); (try clear hi))))
      go_ret
      exact ⟨by first | rfl | (simp [errW_none, errW_some] <;> rfl) | (simp [*, errW_none, errW_some] <;> rfl), by repeat (first | (with_reducible first | exact HB.out | apply below_alloc | apply pw_below_drewN | apply below_drew1) | exact HB.out)⟩
  · replace c4 := Bool.eq_false_iff.mpr c4
    subst c4
    have H1 : (some false) = some r := by rw [if_neg (show ¬ (false = true) by decide)] at H; exact H
    clear H
    have H := H1
    clear H1
    obtain rfl := Option.some.inj H
    go_enter Try.func7, Try.ntmps7
    go_wp2_with (first | (go_at_call 14; (with_reducible refine (scrimlaw18_awake.calls k  false _ A3.out).mono ?_); rintro e w81 ⟨rfl, hb⟩; have n0_ := Aside0.mk (below_step (by repeat (first | (with_reducible first | exact HB.out | apply below_alloc | apply pw_below_drewN | apply below_drew1) | exact HB.out)) hb); clear HB; have HB := n0_; clear n0_; (try clear hb); (try clear hb2); (try clear hk); (try clear hi)))
    repeat (go_quiet (first | (go_at_call 14; (with_reducible refine (scrimlaw18_awake.calls k  false _ A3.out).mono ?_); rintro e w81 ⟨rfl, hb⟩; have n0_ := Aside0.mk (below_step (by repeat (first | (with_reducible first | exact HB.out | apply below_alloc | apply pw_below_drewN | apply below_drew1) | exact HB.out)) hb); clear HB; have HB := n0_; clear n0_; (try clear hb); (try clear hb2); (try clear hk); (try clear hi))); try go_wp2_with (first | (go_at_call 14; (with_reducible refine (scrimlaw18_awake.calls k  false _ A3.out).mono ?_); rintro e w81 ⟨rfl, hb⟩; have n0_ := Aside0.mk (below_step (by repeat (first | (with_reducible first | exact HB.out | apply below_alloc | apply pw_below_drewN | apply below_drew1) | exact HB.out)) hb); clear HB; have HB := n0_; clear n0_; (try clear hb); (try clear hb2); (try clear hk); (try clear hi))))
    go_ret
    exact ⟨by first | rfl | (simp [errW_none, errW_some] <;> rfl) | (simp [*, errW_none, errW_some] <;> rfl), by repeat (first | (with_reducible first | exact HB.out | apply below_alloc | apply pw_below_drewN | apply below_drew1) | exact HB.out)⟩

end Go.Proofs.Ytdifaomkaekglaa.HR
