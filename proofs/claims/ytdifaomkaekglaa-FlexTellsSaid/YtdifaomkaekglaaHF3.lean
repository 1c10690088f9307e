-- Written by a program of this session (wip/tools/hprint.py), which drives the kit's print; not print.sh's own output.
import Derived.Test.YtdifaomkaekglaaHF0
import Derived.Test.YtdifaomkaekglaaHF2
namespace Go.Proofs.Ytdifaomkaekglaa.HF
open Go.RowKit Go.Proofs.YtdifaomkaekglaaW.PrintWords Go.Proofs.YtdifaomkaekglaaW.PrintLast Go.Proofs.YtdifaomkaekglaaW.PrintMore
attribute [local go_sem] max2_int min2_int max_two min_two max_three min_three max_four min_four   -- for this text's walks alone
set_option linter.unusedVariables false
set_option linter.unusedSimpArgs false

/-! ### scrimref18_Share: function 16 -/
mutual
def scrimref18_Share.l0 : Nat → List (S74) → Int → List (S74) → List Int → List Bool → Int → Option (List Int × Bool)
  | 0, _, _, _, _, _, _ => none
  | k + 1, x0, x1, x6, x7, x8, x9 => if x9 < (x0.length : Int) then (if 0 ≤ x9 then ((scrimref18_counted.f ((rd_T74 x0 x9).f0) ((rd_T74 x0 x9).f1) ((rd_T74 x0 x9).f2) ((rd_T74 x0 x9).f3)).bind fun bt195 => (if x6.length < 4398046511104 then (if x7.length < 17592186044416 then (if x8.length < 140737488355328 then (scrimref18_Share.l0 k x0 x1 (x6 ++ [(⟨bt195.1, bt195.2.1, bt195.2.2.1, bt195.2.2.2⟩ : S74)]) (x7 ++ [0]) (x8 ++ [false]) (wrap64 (x9 + 1))) else (none)) else (none)) else (none))) else (none)) else (scrimref18_Share.l1 k x1 x6 x7 x8 true true)
def scrimref18_Share.l1 : Nat → Int → List (S74) → List Int → List Bool → Bool → Bool → Option (List Int × Bool)
  | 0, _, _, _, _, _, _ => none
  | k + 1, x1, x6, x7, x8, x10, x11 => if x11 = true then (scrimref18_Share.l2 k x1 x6 x7 x8 x10 false (([] : List Int)) 0 0 0) else (some (x7, x10))
def scrimref18_Share.l2 : Nat → Int → List (S74) → List Int → List Bool → Bool → Bool → List Int → Int → Int → Int → Option (List Int × Bool)
  | 0, _, _, _, _, _, _, _, _, _, _ => none
  | k + 1, x1, x6, x7, x8, x10, x11, x12, x13, x14, x15 => if x15 < (x6.length : Int) then (if 0 ≤ x15 then (if x15 < (x8.length : Int) then (if rdOf false x8 x15 = true then (if x15 < (x7.length : Int) then ((some (([(rd_T74 x6 x15).f1, rd x7 x15] : List Int) : List Int)).bind fun y215 => (if x12.length + y215.length < 17592186044416 then (scrimref18_Share.l2 k x1 x6 x7 x8 x10 x11 (x12 ++ y215) x13 x14 (wrap64 (x15 + 1))) else (none))) else (none)) else ((some (([(rd_T74 x6 x15).f1, (rd_T74 x6 x15).f0] : List Int) : List Int)).bind fun y224 => (if x12.length + y224.length < 17592186044416 then (scrimref18_Share.l2 k x1 x6 x7 x8 x10 x11 (x12 ++ y224) (wrap64 (x13 + ((rd_T74 x6 x15).f2))) (wrap64 (x14 + ((rd_T74 x6 x15).f3))) (wrap64 (x15 + 1))) else (none)))) else (none)) else (none)) else ((scrimref01_Sum.f k x12).bind fun bt230 => ((scrimref01_Sub.f x1 bt230.1).bind fun bt232 => (if x10 = true then (if bt230.2 = true then (scrimref18_Share.j3 k x1 x6 x7 x8 bt232.2 x11 x13 x14 bt232.1) else (scrimref18_Share.j3 k x1 x6 x7 x8 false x11 x13 x14 bt232.1)) else (scrimref18_Share.j3 k x1 x6 x7 x8 false x11 x13 x14 bt232.1))))
def scrimref18_Share.j3 : Nat → Int → List (S74) → List Int → List Bool → Bool → Bool → Int → Int → Int → Option (List Int × Bool)
  | 0, _, _, _, _, _, _, _, _, _ => none
  | k + 1, x1, x6, x7, x8, x10, x11, x13, x14, x19 => scrimref18_Share.l3 k x1 x6 x7 x8 x10 x11 x13 x14 x19 0
def scrimref18_Share.l3 : Nat → Int → List (S74) → List Int → List Bool → Bool → Bool → Int → Int → Int → Int → Option (List Int × Bool)
  | 0, _, _, _, _, _, _, _, _, _, _ => none
  | k + 1, x1, x6, x7, x8, x10, x11, x13, x14, x19, x21 => if x21 < (x6.length : Int) then (if 0 ≤ x21 then (if x21 < (x8.length : Int) then (if rdOf false x8 x21 = true then (scrimref18_Share.l3 k x1 x6 x7 x8 x10 x11 x13 x14 x19 (wrap64 (x21 + 1))) else (if x19 ≥ 0 then ((scrimref18_share.f k x19 ((rd_T74 x6 x21).f2) x13).bind fun bt236 => ((scrimref01_Add.f ((rd_T74 x6 x21).f0) bt236.1).bind fun bt239 => (if x21 < (x7.length : Int) then ((some (x7.set (x21 : Int).toNat bt239.1 : List Int)).bind fun y241 => (if x10 = true then (if bt236.2 = true then (scrimref18_Share.l3 k x1 x6 y241 x8 bt239.2 x11 x13 x14 x19 (wrap64 (x21 + 1))) else (scrimref18_Share.l3 k x1 x6 y241 x8 false x11 x13 x14 x19 (wrap64 (x21 + 1)))) else (scrimref18_Share.l3 k x1 x6 y241 x8 false x11 x13 x14 x19 (wrap64 (x21 + 1))))) else (none)))) else ((scrimref18_share.f k (wrap64 (-x19)) ((rd_T74 x6 x21).f3) x14).bind fun bt243 => ((scrimref01_Sub.f ((rd_T74 x6 x21).f0) bt243.1).bind fun bt246 => (if x21 < (x7.length : Int) then ((some (x7.set (x21 : Int).toNat bt246.1 : List Int)).bind fun y248 => (if x10 = true then (if bt243.2 = true then (scrimref18_Share.l3 k x1 x6 y248 x8 bt246.2 x11 x13 x14 x19 (wrap64 (x21 + 1))) else (scrimref18_Share.l3 k x1 x6 y248 x8 false x11 x13 x14 x19 (wrap64 (x21 + 1)))) else (scrimref18_Share.l3 k x1 x6 y248 x8 false x11 x13 x14 x19 (wrap64 (x21 + 1))))) else (none)))))) else (none)) else (none)) else (scrimref18_Share.l4 k x1 x6 x7 x8 x10 x11 0)
def scrimref18_Share.l4 : Nat → Int → List (S74) → List Int → List Bool → Bool → Bool → Int → Option (List Int × Bool)
  | 0, _, _, _, _, _, _, _ => none
  | k + 1, x1, x6, x7, x8, x10, x11, x30 => if x30 < (x6.length : Int) then (if 0 ≤ x30 then (if x30 < (x8.length : Int) then (if rdOf false x8 x30 = true then (scrimref18_Share.l4 k x1 x6 x7 x8 x10 x11 (wrap64 (x30 + 1))) else (if x30 < (x7.length : Int) then (if (rd x7 x30) < 0 then (scrimref18_Share.l4 k x1 x6 (x7.set (x30 : Int).toNat 0) (x8.set (x30 : Int).toNat true) x10 true (wrap64 (x30 + 1))) else (scrimref18_Share.l4 k x1 x6 x7 x8 x10 x11 (wrap64 (x30 + 1)))) else (none))) else (none)) else (none)) else (scrimref18_Share.l1 k x1 x6 x7 x8 x10 x11)
end
def scrimref18_Share.f (k : Nat) (l0 : List (S74)) (a1 : Int) : Option (List Int × Bool) := if (l0.length : Int) > 100 then (some (([] : List Int), false)) else (scrimref18_Share.l0 k l0 a1 (([] : List (S74))) (([] : List Int)) (([] : List Bool)) 0)
theorem scrimref18_Share.mono_l : ∀ k, (∀ y0 y1 y2 y3 y4 y5, LeO (scrimref18_Share.l0 k y0 y1 y2 y3 y4 y5) (scrimref18_Share.l0 (k + 1) y0 y1 y2 y3 y4 y5)) ∧ (∀ y0 y1 y2 y3 y4 y5, LeO (scrimref18_Share.l1 k y0 y1 y2 y3 y4 y5) (scrimref18_Share.l1 (k + 1) y0 y1 y2 y3 y4 y5)) ∧ (∀ y0 y1 y2 y3 y4 y5 y6 y7 y8 y9, LeO (scrimref18_Share.l2 k y0 y1 y2 y3 y4 y5 y6 y7 y8 y9) (scrimref18_Share.l2 (k + 1) y0 y1 y2 y3 y4 y5 y6 y7 y8 y9)) ∧ (∀ y0 y1 y2 y3 y4 y5 y6 y7 y8, LeO (scrimref18_Share.j3 k y0 y1 y2 y3 y4 y5 y6 y7 y8) (scrimref18_Share.j3 (k + 1) y0 y1 y2 y3 y4 y5 y6 y7 y8)) ∧ (∀ y0 y1 y2 y3 y4 y5 y6 y7 y8 y9, LeO (scrimref18_Share.l3 k y0 y1 y2 y3 y4 y5 y6 y7 y8 y9) (scrimref18_Share.l3 (k + 1) y0 y1 y2 y3 y4 y5 y6 y7 y8 y9)) ∧ (∀ y0 y1 y2 y3 y4 y5 y6, LeO (scrimref18_Share.l4 k y0 y1 y2 y3 y4 y5 y6) (scrimref18_Share.l4 (k + 1) y0 y1 y2 y3 y4 y5 y6))
  | 0 => ⟨fun _ _ _ _ _ _ r h => by simp [scrimref18_Share.l0] at h, fun _ _ _ _ _ _ r h => by simp [scrimref18_Share.l1] at h, fun _ _ _ _ _ _ _ _ _ _ r h => by simp [scrimref18_Share.l2] at h, fun _ _ _ _ _ _ _ _ _ r h => by simp [scrimref18_Share.j3] at h, fun _ _ _ _ _ _ _ _ _ _ r h => by simp [scrimref18_Share.l3] at h, fun _ _ _ _ _ _ _ r h => by simp [scrimref18_Share.l4] at h⟩
  | k + 1 => by
    obtain ⟨ih0, ih1, ih2, ih3, ih4, ih5⟩ := scrimref18_Share.mono_l k
    refine ⟨?_, ?_, ?_, ?_, ?_, ?_⟩
    · intro y0 y1 y2 y3 y4 y5
      unfold scrimref18_Share.l0
      repeat' first
      | (with_reducible exact ih0 _ _ _ _ _ _)
      | (with_reducible exact ih1 _ _ _ _ _ _)
      | (with_reducible exact ih2 _ _ _ _ _ _ _ _ _ _)
      | (with_reducible exact ih3 _ _ _ _ _ _ _ _ _)
      | (with_reducible exact ih4 _ _ _ _ _ _ _ _ _ _)
      | (with_reducible exact ih5 _ _ _ _ _ _ _)
      | (with_reducible exact scrimref01_Sum.mono _ _)
      | (with_reducible exact scrimref18_share.mono _ _ _ _)
      | (with_reducible exact LeO.refl _)
      | (with_reducible exact LeO.none _)
      | (with_reducible refine LeO.ite ?_ ?_)
      | (with_reducible refine LeO.bind ?_ (fun _ => ?_))
      | exact ih0 _ _ _ _ _ _
      | exact ih1 _ _ _ _ _ _
      | exact ih2 _ _ _ _ _ _ _ _ _ _
      | exact ih3 _ _ _ _ _ _ _ _ _
      | exact ih4 _ _ _ _ _ _ _ _ _ _
      | exact ih5 _ _ _ _ _ _ _
      | exact scrimref01_Sum.mono _ _
      | exact scrimref18_share.mono _ _ _ _
      | exact LeO.none _
      | refine LeO.ite ?_ ?_
      | refine LeO.bind ?_ (fun _ => ?_)
    · intro y0 y1 y2 y3 y4 y5
      unfold scrimref18_Share.l1
      repeat' first
      | (with_reducible exact ih0 _ _ _ _ _ _)
      | (with_reducible exact ih1 _ _ _ _ _ _)
      | (with_reducible exact ih2 _ _ _ _ _ _ _ _ _ _)
      | (with_reducible exact ih3 _ _ _ _ _ _ _ _ _)
      | (with_reducible exact ih4 _ _ _ _ _ _ _ _ _ _)
      | (with_reducible exact ih5 _ _ _ _ _ _ _)
      | (with_reducible exact scrimref01_Sum.mono _ _)
      | (with_reducible exact scrimref18_share.mono _ _ _ _)
      | (with_reducible exact LeO.refl _)
      | (with_reducible exact LeO.none _)
      | (with_reducible refine LeO.ite ?_ ?_)
      | (with_reducible refine LeO.bind ?_ (fun _ => ?_))
      | exact ih0 _ _ _ _ _ _
      | exact ih1 _ _ _ _ _ _
      | exact ih2 _ _ _ _ _ _ _ _ _ _
      | exact ih3 _ _ _ _ _ _ _ _ _
      | exact ih4 _ _ _ _ _ _ _ _ _ _
      | exact ih5 _ _ _ _ _ _ _
      | exact scrimref01_Sum.mono _ _
      | exact scrimref18_share.mono _ _ _ _
      | exact LeO.none _
      | refine LeO.ite ?_ ?_
      | refine LeO.bind ?_ (fun _ => ?_)
    · intro y0 y1 y2 y3 y4 y5 y6 y7 y8 y9
      unfold scrimref18_Share.l2
      repeat' first
      | (with_reducible exact ih0 _ _ _ _ _ _)
      | (with_reducible exact ih1 _ _ _ _ _ _)
      | (with_reducible exact ih2 _ _ _ _ _ _ _ _ _ _)
      | (with_reducible exact ih3 _ _ _ _ _ _ _ _ _)
      | (with_reducible exact ih4 _ _ _ _ _ _ _ _ _ _)
      | (with_reducible exact ih5 _ _ _ _ _ _ _)
      | (with_reducible exact scrimref01_Sum.mono _ _)
      | (with_reducible exact scrimref18_share.mono _ _ _ _)
      | (with_reducible exact LeO.refl _)
      | (with_reducible exact LeO.none _)
      | (with_reducible refine LeO.ite ?_ ?_)
      | (with_reducible refine LeO.bind ?_ (fun _ => ?_))
      | exact ih0 _ _ _ _ _ _
      | exact ih1 _ _ _ _ _ _
      | exact ih2 _ _ _ _ _ _ _ _ _ _
      | exact ih3 _ _ _ _ _ _ _ _ _
      | exact ih4 _ _ _ _ _ _ _ _ _ _
      | exact ih5 _ _ _ _ _ _ _
      | exact scrimref01_Sum.mono _ _
      | exact scrimref18_share.mono _ _ _ _
      | exact LeO.none _
      | refine LeO.ite ?_ ?_
      | refine LeO.bind ?_ (fun _ => ?_)
    · intro y0 y1 y2 y3 y4 y5 y6 y7 y8
      unfold scrimref18_Share.j3
      repeat' first
      | (with_reducible exact ih0 _ _ _ _ _ _)
      | (with_reducible exact ih1 _ _ _ _ _ _)
      | (with_reducible exact ih2 _ _ _ _ _ _ _ _ _ _)
      | (with_reducible exact ih3 _ _ _ _ _ _ _ _ _)
      | (with_reducible exact ih4 _ _ _ _ _ _ _ _ _ _)
      | (with_reducible exact ih5 _ _ _ _ _ _ _)
      | (with_reducible exact scrimref01_Sum.mono _ _)
      | (with_reducible exact scrimref18_share.mono _ _ _ _)
      | (with_reducible exact LeO.refl _)
      | (with_reducible exact LeO.none _)
      | (with_reducible refine LeO.ite ?_ ?_)
      | (with_reducible refine LeO.bind ?_ (fun _ => ?_))
      | exact ih0 _ _ _ _ _ _
      | exact ih1 _ _ _ _ _ _
      | exact ih2 _ _ _ _ _ _ _ _ _ _
      | exact ih3 _ _ _ _ _ _ _ _ _
      | exact ih4 _ _ _ _ _ _ _ _ _ _
      | exact ih5 _ _ _ _ _ _ _
      | exact scrimref01_Sum.mono _ _
      | exact scrimref18_share.mono _ _ _ _
      | exact LeO.none _
      | refine LeO.ite ?_ ?_
      | refine LeO.bind ?_ (fun _ => ?_)
    · intro y0 y1 y2 y3 y4 y5 y6 y7 y8 y9
      unfold scrimref18_Share.l3
      repeat' first
      | (with_reducible exact ih0 _ _ _ _ _ _)
      | (with_reducible exact ih1 _ _ _ _ _ _)
      | (with_reducible exact ih2 _ _ _ _ _ _ _ _ _ _)
      | (with_reducible exact ih3 _ _ _ _ _ _ _ _ _)
      | (with_reducible exact ih4 _ _ _ _ _ _ _ _ _ _)
      | (with_reducible exact ih5 _ _ _ _ _ _ _)
      | (with_reducible exact scrimref01_Sum.mono _ _)
      | (with_reducible exact scrimref18_share.mono _ _ _ _)
      | (with_reducible exact LeO.refl _)
      | (with_reducible exact LeO.none _)
      | (with_reducible refine LeO.ite ?_ ?_)
      | (with_reducible refine LeO.bind ?_ (fun _ => ?_))
      | exact ih0 _ _ _ _ _ _
      | exact ih1 _ _ _ _ _ _
      | exact ih2 _ _ _ _ _ _ _ _ _ _
      | exact ih3 _ _ _ _ _ _ _ _ _
      | exact ih4 _ _ _ _ _ _ _ _ _ _
      | exact ih5 _ _ _ _ _ _ _
      | exact scrimref01_Sum.mono _ _
      | exact scrimref18_share.mono _ _ _ _
      | exact LeO.none _
      | refine LeO.ite ?_ ?_
      | refine LeO.bind ?_ (fun _ => ?_)
    · intro y0 y1 y2 y3 y4 y5 y6
      unfold scrimref18_Share.l4
      repeat' first
      | (with_reducible exact ih0 _ _ _ _ _ _)
      | (with_reducible exact ih1 _ _ _ _ _ _)
      | (with_reducible exact ih2 _ _ _ _ _ _ _ _ _ _)
      | (with_reducible exact ih3 _ _ _ _ _ _ _ _ _)
      | (with_reducible exact ih4 _ _ _ _ _ _ _ _ _ _)
      | (with_reducible exact ih5 _ _ _ _ _ _ _)
      | (with_reducible exact scrimref01_Sum.mono _ _)
      | (with_reducible exact scrimref18_share.mono _ _ _ _)
      | (with_reducible exact LeO.refl _)
      | (with_reducible exact LeO.none _)
      | (with_reducible refine LeO.ite ?_ ?_)
      | (with_reducible refine LeO.bind ?_ (fun _ => ?_))
      | exact ih0 _ _ _ _ _ _
      | exact ih1 _ _ _ _ _ _
      | exact ih2 _ _ _ _ _ _ _ _ _ _
      | exact ih3 _ _ _ _ _ _ _ _ _
      | exact ih4 _ _ _ _ _ _ _ _ _ _
      | exact ih5 _ _ _ _ _ _ _
      | exact scrimref01_Sum.mono _ _
      | exact scrimref18_share.mono _ _ _ _
      | exact LeO.none _
      | refine LeO.ite ?_ ?_
      | refine LeO.bind ?_ (fun _ => ?_)
theorem scrimref18_Share.mono : ∀ a0 a1 k, LeO (scrimref18_Share.f k a0 a1) (scrimref18_Share.f (k + 1) a0 a1) := by
  intro a0 a1 k
  obtain ⟨ih0, ih1, ih2, ih3, ih4, ih5⟩ := scrimref18_Share.mono_l k
  unfold scrimref18_Share.f
  repeat' first
      | (with_reducible exact ih0 _ _ _ _ _ _)
      | (with_reducible exact ih1 _ _ _ _ _ _)
      | (with_reducible exact ih2 _ _ _ _ _ _ _ _ _ _)
      | (with_reducible exact ih3 _ _ _ _ _ _ _ _ _)
      | (with_reducible exact ih4 _ _ _ _ _ _ _ _ _ _)
      | (with_reducible exact ih5 _ _ _ _ _ _ _)
      | (with_reducible exact scrimref01_Sum.mono _ _)
      | (with_reducible exact scrimref18_share.mono _ _ _ _)
      | (with_reducible exact LeO.refl _)
      | (with_reducible exact LeO.none _)
      | (with_reducible refine LeO.ite ?_ ?_)
      | (with_reducible refine LeO.bind ?_ (fun _ => ?_))
      | exact ih0 _ _ _ _ _ _
      | exact ih1 _ _ _ _ _ _
      | exact ih2 _ _ _ _ _ _ _ _ _ _
      | exact ih3 _ _ _ _ _ _ _ _ _
      | exact ih4 _ _ _ _ _ _ _ _ _ _
      | exact ih5 _ _ _ _ _ _ _
      | exact scrimref01_Sum.mono _ _
      | exact scrimref18_share.mono _ _ _ _
      | exact LeO.none _
      | refine LeO.ite ?_ ?_
      | refine LeO.bind ?_ (fun _ => ?_)
set_option maxHeartbeats 8000000 in
set_option maxRecDepth 100000 in
theorem scrimref18_Share.calls (k : Nat) (A0 : Option Addr) (c0 : Nat) (l0 : List (S74)) (a1 : Int) (r1 : List Int) (r2 : Bool) (w : World) (hr0 : Kd.C k74 w A0 l0.length l0) (hc0 : l0.length ≤ c0) (h : scrimref18_Share.f k l0 a1 = some (r1, r2)) :
    Calls Try.prog 16 #[.slice A0 l0.length c0, .int .i64 a1] w fun e w' => ∃ v0_ : Value, e = .returned (.tuple #[v0_, .bool r2]) ∧ Kd.R (Kd.int .i64) 2 w' w.heap.size (fun _ => True) v0_ r1 ∧ Below w.heap.size w w' := by
  have hu74 := Try.underlying74
  have HR0 := Aside0.mk hr0
  have HC0 := Aside0.mk hc0
  clear hr0 hc0
  have HB := Aside0.mk (Below.refl w.heap.size w)
  have H : (if (l0.length : Int) > 100 then (some (([] : List Int), false)) else (scrimref18_Share.l0 k l0 a1 (([] : List (S74))) (([] : List Int)) (([] : List Bool)) 0)) = some (r1, r2) := h
  clear h
  by_cases c3 : (l0.length : Int) > 100
  · rw [if_pos c3] at H
    have c3b0 : decide (100 < (l0.length : Int)) = true := decide_eq_true c3
    have c3b1 : decide (100 < l0.length) = true := decide_eq_true (by omega)
    clear c3
    simp only [Option.some.injEq, Prod.mk.injEq] at H
    obtain ⟨rfl, rfl⟩ := H
    go_enter Try.func16, Try.ntmps16
    go_wp2
    go_ret2
    exact ⟨_, by first | rfl | (simp [errW_none, errW_some] <;> rfl) | (simp [*, errW_none, errW_some] <;> rfl), by first | exact Kd.R_nil _ _ _ _ _ | exact Kd.N_nil _ _ _ _ _ | exact Kd.V_nil _ _ _ _ _ | exact Kd.Q_nil _ _ _ _ _ | exact Kd.S_nil _ _ _ _ _, by repeat (first | (with_reducible first | exact HB.out | apply below_alloc | apply pw_below_drewN | apply below_drew1) | exact HB.out)⟩
  · rw [if_neg c3] at H
    have c3b0 : decide (100 < (l0.length : Int)) = false := decide_eq_false c3
    have c3b1 : decide (100 < l0.length) = false := decide_eq_false (by omega)
    clear c3
    obtain ⟨y185, hy185⟩ : ∃ y_ : List (S74), y_ = (([] : List (S74))) := ⟨_, rfl⟩
    replace H : (scrimref18_Share.l0 k l0 a1 y185 (([] : List Int)) (([] : List Bool)) 0) = some (r1, r2) := by first | (rw [hy185]; with_reducible exact H) | (have H2_ := (Option.bind_some _ _).symm.trans H; rw [hy185]; with_reducible exact H2_) | (have H2_ := (Option.bind_some _ _).symm.trans H; with_reducible exact H2_) | with_reducible exact H | (rw [hy185]; exact H) | exact H
    have Ny185 := Aside0.mk hy185
    clear hy185
    obtain ⟨y188, hy188⟩ : ∃ y_ : List Int, y_ = (([] : List Int)) := ⟨_, rfl⟩
    replace H : (scrimref18_Share.l0 k l0 a1 y185 y188 (([] : List Bool)) 0) = some (r1, r2) := by first | (rw [hy188]; with_reducible exact H) | (have H2_ := (Option.bind_some _ _).symm.trans H; rw [hy188]; with_reducible exact H2_) | (have H2_ := (Option.bind_some _ _).symm.trans H; with_reducible exact H2_) | with_reducible exact H | (rw [hy188]; exact H) | exact H
    have Ny188 := Aside0.mk hy188
    clear hy188
    obtain ⟨y191, hy191⟩ : ∃ y_ : List Bool, y_ = (([] : List Bool)) := ⟨_, rfl⟩
    replace H : (scrimref18_Share.l0 k l0 a1 y185 y188 y191 0) = some (r1, r2) := by first | (rw [hy191]; with_reducible exact H) | (have H2_ := (Option.bind_some _ _).symm.trans H; rw [hy191]; with_reducible exact H2_) | (have H2_ := (Option.bind_some _ _).symm.trans H; with_reducible exact H2_) | with_reducible exact H | (rw [hy191]; exact H) | exact H
    have Ny191 := Aside0.mk hy191
    clear hy191
    have H' := Aside0.mk H
    clear H
    go_enter Try.func16, Try.ntmps16
    go_wp2_with (first | ((with_reducible refine gate_dst (N := 34) rfl ?_); refine Kd.R_lit k74 _ 74 ?hg (N := 34) ?hd (xs := ([] : List (S74))) (inner := []) (ok := fun _ => True) (okp := fun _ => True) ?hr ?hp (fun _ hk => hk) trivial (Below.refl _ _) (Nat.le_refl _) (by simp) ?_; (case hd => rfl); (case hg => rfl); (case hr => first | (go_simp; done) | (go_simp; rfl)); (case hp => exact (Reps.none _ _)); intro v186 w4 ho5 hb hg_ hnew_; clear hg_ hnew_; (first | rw [← Ny185.out] at ho5 | (simp only [Int.reduceToNat] at ho5; rw [← Ny185.out] at ho5)); have n0_ := Aside0.mk (Kd.R_lower ho5 (below_size (by repeat (first | (with_reducible first | exact HB.out | apply below_alloc | apply pw_below_drewN | apply below_drew1) | exact HB.out)))); have n1_ := Aside0.mk (below_step (by repeat (first | (with_reducible first | exact HB.out | apply below_alloc | apply pw_below_drewN | apply below_drew1) | exact HB.out)) hb); clear HB; have HO187 := n0_; have HB := n1_; clear n0_ n1_; clear hb ho5) | ((with_reducible refine gate_dst (N := 35) rfl ?_); refine Kd.R_lit (Kd.int .i64) _ 2 ?hg (N := 35) ?hd (xs := ([] : List Int)) (inner := []) (ok := fun _ => True) (okp := fun _ => True) ?hr ?hp (fun _ hk => hk) trivial (Below.refl _ _) (Nat.le_refl _) (by simp) ?_; (case hd => rfl); (case hg => rfl); (case hr => first | (go_simp; done) | (go_simp; rfl)); (case hp => exact (Reps.none _ _)); intro v189 w6 ho7 hb hg_ hnew_; clear hg_ hnew_; (first | rw [← Ny188.out] at ho7 | (simp only [Int.reduceToNat] at ho7; rw [← Ny188.out] at ho7)); have n0_ := Aside0.mk (Kd.R_below (by (with_reducible repeat (first | apply Kd.R_alloc | apply Kd.R_drewN | apply Kd.R_drew)); exact HO187.out) hb); have n1_ := Aside0.mk (Kd.R_lower ho7 (below_size (by repeat (first | (with_reducible first | exact HB.out | apply below_alloc | apply pw_below_drewN | apply below_drew1) | exact HB.out)))); have n2_ := Aside0.mk (below_step (by repeat (first | (with_reducible first | exact HB.out | apply below_alloc | apply pw_below_drewN | apply below_drew1) | exact HB.out)) hb); clear HO187; clear HB; have HO187 := n0_; have HO190 := n1_; have HB := n2_; clear n0_ n1_ n2_; clear hb ho7) | ((with_reducible refine gate_dst (N := 36) rfl ?_); refine Kd.R_lit Kd.bool _ 4 ?hg (N := 36) ?hd (xs := ([] : List Bool)) (inner := []) (ok := fun _ => True) (okp := fun _ => True) ?hr ?hp (fun _ hk => hk) trivial (Below.refl _ _) (Nat.le_refl _) (by simp) ?_; (case hd => rfl); (case hg => rfl); (case hr => first | (go_simp; done) | (go_simp; rfl)); (case hp => exact (Reps.none _ _)); intro v192 w8 ho9 hb hg_ hnew_; clear hg_ hnew_; (first | rw [← Ny191.out] at ho9 | (simp only [Int.reduceToNat] at ho9; rw [← Ny191.out] at ho9)); have n0_ := Aside0.mk (Kd.R_below (by (with_reducible repeat (first | apply Kd.R_alloc | apply Kd.R_drewN | apply Kd.R_drew)); exact HO187.out) hb); have n1_ := Aside0.mk (Kd.R_below (by (with_reducible repeat (first | apply Kd.R_alloc | apply Kd.R_drewN | apply Kd.R_drew)); exact HO190.out) hb); have n2_ := Aside0.mk (Kd.R_lower ho9 (below_size (by repeat (first | (with_reducible first | exact HB.out | apply below_alloc | apply pw_below_drewN | apply below_drew1) | exact HB.out)))); have n3_ := Aside0.mk (below_step (by repeat (first | (with_reducible first | exact HB.out | apply below_alloc | apply pw_below_drewN | apply below_drew1) | exact HB.out)) hb); clear HO187; clear HO190; clear HB; have HO187 := n0_; have HO190 := n1_; have HO193 := n2_; have HB := n3_; clear n0_ n1_ n2_ n3_; clear hb ho9))
    go_loopg [6, 7, 8, 9] k (fun kq v6 v7 v8 v9 w' => ∃ (x6_1 : List (S74)) (x7_1 : List Int) (x8_1 : List Bool) (x9_1 : Int), v9 = .int .i64 x9_1 ∧ Aside0 (scrimref18_Share.l0 kq l0 a1 x6_1 x7_1 x8_1 x9_1 = some (r1, r2)) ∧ Aside0 (kq ≤ k) ∧ Aside0 (Kd.R k74 74 w' w.heap.size (fun _ => True) v6 x6_1) ∧ Aside0 (Kd.R (Kd.int .i64) 2 w' w.heap.size (fun _ => True) v7 x7_1) ∧ Aside0 (Kd.R Kd.bool 4 w' w.heap.size (fun _ => True) v8 x8_1) ∧ Aside0 (Below w.heap.size w w'))
    case atStart => exact ⟨(y185), (y188), (y191), (0), (by first | rfl | (simp; done) | (simp [*]; done)), H', ⟨Nat.le_refl _⟩, ⟨by (with_reducible repeat (first | apply Kd.R_alloc | apply Kd.R_drewN | apply Kd.R_drew)); exact HO187.out⟩, ⟨by (with_reducible repeat (first | apply Kd.R_alloc | apply Kd.R_drewN | apply Kd.R_drew)); exact HO190.out⟩, ⟨by (with_reducible repeat (first | apply Kd.R_alloc | apply Kd.R_drewN | apply Kd.R_drew)); exact HO193.out⟩, ⟨by repeat (first | (with_reducible first | exact HB.out | apply below_alloc | apply pw_below_drewN | apply below_drew1) | exact HB.out)⟩⟩
    case round =>
      as_aux_lemma =>
      clear H'
      try clear c1
      try clear p2
      try clear c3
      try clear c3b0
      try clear c3b1
      obtain ⟨x6_1, x7_1, x8_1, x9_1, rfl, HA, HK1, HO_6, HO_7, HO_8, HB⟩ := hrel
      cases gk with
      | zero => exact absurd HA.out (by simp [scrimref18_Share.l0])
      | succ k1 =>
        have H := HA.out
        clear HA
        simp only [scrimref18_Share.l0] at H
        by_cases c10 : x9_1 < (l0.length : Int)
        · rw [if_pos c10] at H
          have c10b0 : decide (x9_1 < (l0.length : Int)) = true := decide_eq_true c10
          clear c10
          by_cases c11 : 0 ≤ x9_1
          · rw [if_pos c11] at H
            have c11b0 : decide (0 ≤ x9_1) = true := decide_eq_true c11
            clear c11
            replace H := Option.bind_eq_some_iff.mp H
            obtain ⟨⟨t195, t196, t197, t198⟩, A120, H⟩ := H
            replace H : (if x6_1.length < 4398046511104 then (if x7_1.length < 17592186044416 then (if x8_1.length < 140737488355328 then (scrimref18_Share.l0 k1 l0 a1 (x6_1 ++ [(⟨t195, t196, t197, t198⟩ : S74)]) (x7_1 ++ [0]) (x8_1 ++ [false]) (wrap64 (x9_1 + 1))) else (none)) else (none)) else (none)) = some (r1, r2) := H
            have A12 := Aside0.mk A120
            clear A120
            by_cases c13 : x6_1.length < 4398046511104
            · rw [if_pos c13] at H
              have LMc13 := Aside0.mk c13
              clear c13
              obtain ⟨y199, hy199⟩ : ∃ y_ : List (S74), y_ = (x6_1 ++ [(⟨t195, t196, t197, t198⟩ : S74)]) := ⟨_, rfl⟩
              replace H : (if x7_1.length < 17592186044416 then (if x8_1.length < 140737488355328 then (scrimref18_Share.l0 k1 l0 a1 y199 (x7_1 ++ [0]) (x8_1 ++ [false]) (wrap64 (x9_1 + 1))) else (none)) else (none)) = some (r1, r2) := by first | (rw [hy199]; with_reducible exact H) | (have H2_ := (Option.bind_some _ _).symm.trans H; rw [hy199]; with_reducible exact H2_) | (have H2_ := (Option.bind_some _ _).symm.trans H; with_reducible exact H2_) | with_reducible exact H | (rw [hy199]; exact H) | exact H
              have Ny199 := Aside0.mk hy199
              clear hy199
              by_cases c14 : x7_1.length < 17592186044416
              · rw [if_pos c14] at H
                have LMc14 := Aside0.mk c14
                clear c14
                obtain ⟨y202, hy202⟩ : ∃ y_ : List Int, y_ = (x7_1 ++ [0]) := ⟨_, rfl⟩
                replace H : (if x8_1.length < 140737488355328 then (scrimref18_Share.l0 k1 l0 a1 y199 y202 (x8_1 ++ [false]) (wrap64 (x9_1 + 1))) else (none)) = some (r1, r2) := by first | (rw [hy202]; with_reducible exact H) | (have H2_ := (Option.bind_some _ _).symm.trans H; rw [hy202]; with_reducible exact H2_) | (have H2_ := (Option.bind_some _ _).symm.trans H; with_reducible exact H2_) | with_reducible exact H | (rw [hy202]; exact H) | exact H
                have Ny202 := Aside0.mk hy202
                clear hy202
                by_cases c15 : x8_1.length < 140737488355328
                · rw [if_pos c15] at H
                  have LMc15 := Aside0.mk c15
                  clear c15
                  obtain ⟨y205, hy205⟩ : ∃ y_ : List Bool, y_ = (x8_1 ++ [false]) := ⟨_, rfl⟩
                  replace H : (scrimref18_Share.l0 k1 l0 a1 y199 y202 y205 (wrap64 (x9_1 + 1))) = some (r1, r2) := by first | (rw [hy205]; with_reducible exact H) | (have H2_ := (Option.bind_some _ _).symm.trans H; rw [hy205]; with_reducible exact H2_) | (have H2_ := (Option.bind_some _ _).symm.trans H; with_reducible exact H2_) | with_reducible exact H | (rw [hy205]; exact H) | exact H
                  have Ny205 := Aside0.mk hy205
                  clear hy205
                  have H' := Aside0.mk H
                  clear H
                  have p194 : 0 ≤ (x9_1 : Int) := of_decide_eq_true (by first | (with_reducible assumption) | assumption)
                  have q194 : x9_1 < (l0.length : Int) := of_decide_eq_true (by first | (with_reducible assumption) | assumption)
                  obtain ⟨ad194, e194, hx194_0, hx194_1, hx194_2, hx194_3⟩ := at_T74 HR0.out x9_1 p194 q194
                  cases e194
                  replace hx194_0 := (HB.out.cell (World.block_lt_of_cell? w _ hx194_0)).trans hx194_0
                  replace hx194_1 := (HB.out.cell (World.block_lt_of_cell? w _ hx194_1)).trans hx194_1
                  replace hx194_2 := (HB.out.cell (World.block_lt_of_cell? w _ hx194_2)).trans hx194_2
                  replace hx194_3 := (HB.out.cell (World.block_lt_of_cell? w _ hx194_3)).trans hx194_3
                  replace p194 := eq_true p194
                  replace q194 := eq_true q194
                  go_wp2_with (first | ((with_reducible refine gate_callee (f := 39) rfl ?_); refine goesL_ (some 48) rfl rfl Try.func39 (by kernel_rfl) rfl #[.agg #[.int .i64 ((rd_T74 l0 x9_1).f0), .int .i64 ((rd_T74 l0 x9_1).f1), .int .i64 ((rd_T74 l0 x9_1).f2), .int .i64 ((rd_T74 l0 x9_1).f3)]] rfl (by (try simp only [List.map_toArray, List.map_cons, List.map_nil]); first | done | rfl | (simp only [List.length_drop, List.length_take]; rfl)) ?_; (with_reducible refine (scrimref18_counted.calls ((rd_T74 l0 x9_1).f0) ((rd_T74 l0 x9_1).f1) ((rd_T74 l0 x9_1).f2) ((rd_T74 l0 x9_1).f3) t195 t196 t197 t198 _ A12.out).mono ?_); rintro e w16 ⟨rfl, hb⟩; refine ⟨_, rfl, ?_⟩; have n0_ := Aside0.mk (Kd.R_below (by (with_reducible repeat (first | apply Kd.R_alloc | apply Kd.R_drewN | apply Kd.R_drew)); exact HO_6.out) hb); have n1_ := Aside0.mk (Kd.R_below (by (with_reducible repeat (first | apply Kd.R_alloc | apply Kd.R_drewN | apply Kd.R_drew)); exact HO_7.out) hb); have n2_ := Aside0.mk (Kd.R_below (by (with_reducible repeat (first | apply Kd.R_alloc | apply Kd.R_drewN | apply Kd.R_drew)); exact HO_8.out) hb); have n3_ := Aside0.mk (below_step (by repeat (first | (with_reducible first | exact HB.out | apply below_alloc | apply pw_below_drewN | apply below_drew1) | exact HB.out)) hb); clear HO_6; clear HO_7; clear HO_8; clear HB; have HO_6 := n0_; have HO_7 := n1_; have HO_8 := n2_; have HB := n3_; clear n0_ n1_ n2_ n3_; (try clear hb); (try clear hb2); (try clear hk); (try clear hi)) | ((with_reducible refine gate_builtin (b := .append) (xs := #[.tmp 43, .tmp 49]) rfl ?_); at_builtin; refine Kd.R_append k74 (w0 := w) w.heap.size rfl (.tmp 43) (.tmp 49) 38 74 (.agg #[(.int .i64 0), (.int .i64 0), (.int .i64 0), (.int .i64 0)]) 32 rfl Try.underlying38 info74 rfl (by decide) (by omega) u6 x6_1 (⟨t195, t196, t197, t198⟩ : S74) [.int .i64 t195, .int .i64 t196, .int .i64 t197, .int .i64 t198] (fun _ => True) (fun _ => False) rfl rfl ?aP (fun _ hk => hk.elim) ?aF ?aO ?aB ?aS ?aL ?_; (case aP => exact k74_mkM _ _ _ (⟨t195, t196, t197, t198⟩ : S74)); (case aB => exact (by repeat (first | (with_reducible first | exact HB.out | apply below_alloc | apply pw_below_drewN | apply below_drew1) | exact HB.out))); (case aF => exact (fun _ _ => trivial)); (case aO => exact (by (with_reducible repeat (first | apply Kd.R_alloc | apply Kd.R_drewN | apply Kd.R_drew)); exact HO_6.out)); (case aS => exact (below_size (by repeat (first | (with_reducible first | exact HB.out | apply below_alloc | apply pw_below_drewN | apply below_drew1) | exact HB.out)))); (case aL => have := LMc13.out; omega); intro v200 w17 ho hb hg hat; rw [← Ny199.out] at ho; have n0_ := Aside0.mk (Kd.R_over' (by (with_reducible repeat (first | apply Kd.R_alloc | apply Kd.R_drewN | apply Kd.R_drew)); exact HO_7.out) (Kd.R_typed (by (with_reducible repeat (first | apply Kd.R_alloc | apply Kd.R_drewN | apply Kd.R_drew)); exact HO_6.out)) (by decide) hg); have n1_ := Aside0.mk (Kd.R_over' (by (with_reducible repeat (first | apply Kd.R_alloc | apply Kd.R_drewN | apply Kd.R_drew)); exact HO_8.out) (Kd.R_typed (by (with_reducible repeat (first | apply Kd.R_alloc | apply Kd.R_drewN | apply Kd.R_drew)); exact HO_6.out)) (by decide) hg); have n2_ := Aside0.mk (hb); have n3_ := Aside0.mk (ho); clear HO_7; clear HO_8; clear HB; clear HO_6; have HO_7 := n0_; have HO_8 := n1_; have HB := n2_; have HO201 := n3_; clear n0_ n1_ n2_ n3_; clear ho hb hg hat) | ((with_reducible refine gate_builtin (b := .append) (xs := #[.tmp 51, .tmp 52]) rfl ?_); at_builtin; refine Kd.R_append (Kd.int .i64) (w0 := w) w.heap.size rfl (.tmp 51) (.tmp 52) 28 2 (.int .i64 0) 8 rfl Try.underlying28 info2 rfl (by decide) (by omega) u7 x7_1 0 [.int .i64 0] (fun _ => True) (fun _ => False) rfl rfl ?aP (fun _ hk => hk.elim) ?aF ?aO ?aB ?aS ?aL ?_; (case aP => exact rfl); (case aB => exact (by repeat (first | (with_reducible first | exact HB.out | apply below_alloc | apply pw_below_drewN | apply below_drew1) | exact HB.out))); (case aF => exact (fun _ _ => trivial)); (case aO => exact (by (with_reducible repeat (first | apply Kd.R_alloc | apply Kd.R_drewN | apply Kd.R_drew)); exact HO_7.out)); (case aS => exact (below_size (by repeat (first | (with_reducible first | exact HB.out | apply below_alloc | apply pw_below_drewN | apply below_drew1) | exact HB.out)))); (case aL => have := LMc14.out; omega); intro v203 w18 ho hb hg hat; rw [← Ny202.out] at ho; have n0_ := Aside0.mk (Kd.R_over' (by (with_reducible repeat (first | apply Kd.R_alloc | apply Kd.R_drewN | apply Kd.R_drew)); exact HO_8.out) (Kd.R_typed (by (with_reducible repeat (first | apply Kd.R_alloc | apply Kd.R_drewN | apply Kd.R_drew)); exact HO_7.out)) (by decide) hg); have n1_ := Aside0.mk (Kd.R_over' (by (with_reducible repeat (first | apply Kd.R_alloc | apply Kd.R_drewN | apply Kd.R_drew)); exact HO201.out) (Kd.R_typed (by (with_reducible repeat (first | apply Kd.R_alloc | apply Kd.R_drewN | apply Kd.R_drew)); exact HO_7.out)) (by decide) hg); have n2_ := Aside0.mk (hb); have n3_ := Aside0.mk (ho); clear HO_8; clear HO201; clear HB; clear HO_7; have HO_8 := n0_; have HO201 := n1_; have HB := n2_; have HO204 := n3_; clear n0_ n1_ n2_ n3_; clear ho hb hg hat) | ((with_reducible refine gate_builtin (b := .append) (xs := #[.tmp 54, .tmp 55]) rfl ?_); at_builtin; refine Kd.R_append Kd.bool (w0 := w) w.heap.size rfl (.tmp 54) (.tmp 55) 67 4 (.bool false) 1 rfl Try.underlying67 info4 rfl (by decide) (by omega) u8 x8_1 false [.bool false] (fun _ => True) (fun _ => False) rfl rfl ?aP (fun _ hk => hk.elim) ?aF ?aO ?aB ?aS ?aL ?_; (case aP => exact rfl); (case aB => exact (by repeat (first | (with_reducible first | exact HB.out | apply below_alloc | apply pw_below_drewN | apply below_drew1) | exact HB.out))); (case aF => exact (fun _ _ => trivial)); (case aO => exact (by (with_reducible repeat (first | apply Kd.R_alloc | apply Kd.R_drewN | apply Kd.R_drew)); exact HO_8.out)); (case aS => exact (below_size (by repeat (first | (with_reducible first | exact HB.out | apply below_alloc | apply pw_below_drewN | apply below_drew1) | exact HB.out)))); (case aL => have := LMc15.out; omega); intro v206 w19 ho hb hg hat; rw [← Ny205.out] at ho; have n0_ := Aside0.mk (Kd.R_over' (by (with_reducible repeat (first | apply Kd.R_alloc | apply Kd.R_drewN | apply Kd.R_drew)); exact HO201.out) (Kd.R_typed (by (with_reducible repeat (first | apply Kd.R_alloc | apply Kd.R_drewN | apply Kd.R_drew)); exact HO_8.out)) (by decide) hg); have n1_ := Aside0.mk (Kd.R_over' (by (with_reducible repeat (first | apply Kd.R_alloc | apply Kd.R_drewN | apply Kd.R_drew)); exact HO204.out) (Kd.R_typed (by (with_reducible repeat (first | apply Kd.R_alloc | apply Kd.R_drewN | apply Kd.R_drew)); exact HO_8.out)) (by decide) hg); have n2_ := Aside0.mk (hb); have n3_ := Aside0.mk (ho); clear HO201; clear HO204; clear HB; clear HO_8; have HO201 := n0_; have HO204 := n1_; have HB := n2_; have HO207 := n3_; clear n0_ n1_ n2_ n3_; clear ho hb hg hat))
                  go_roundg k1
                  case measure => have := HK1.out; omega
                  case rel => exact ⟨(y199), (y202), (y205), (wrap64 (x9_1 + 1)), (by first | rfl | (simp; done) | (simp [*]; done)), H', ⟨by have := HK1.out; omega⟩, ⟨by (with_reducible repeat (first | apply Kd.R_alloc | apply Kd.R_drewN | apply Kd.R_drew)); exact HO201.out⟩, ⟨by (with_reducible repeat (first | apply Kd.R_alloc | apply Kd.R_drewN | apply Kd.R_drew)); exact HO204.out⟩, ⟨by (with_reducible repeat (first | apply Kd.R_alloc | apply Kd.R_drewN | apply Kd.R_drew)); exact HO207.out⟩, ⟨by repeat (first | (with_reducible first | exact HB.out | apply below_alloc | apply pw_below_drewN | apply below_drew1) | exact HB.out)⟩⟩
                · rw [if_neg c15] at H
                  exact absurd H (by simp)
              · rw [if_neg c14] at H
                exact absurd H (by simp)
            · rw [if_neg c13] at H
              exact absurd H (by simp)
          · rw [if_neg c11] at H
            exact absurd H (by simp)
        · rw [if_neg c10] at H
          have c10b0 : decide (x9_1 < (l0.length : Int)) = false := decide_eq_false c10
          clear c10
          have H' := Aside0.mk H
          clear H
          go_wp2
          go_loopg [10, 11] k1 (fun kq v10 v11 w' => ∃ (x7_2 : List Int) (x8_2 : List Bool) (x10_2 : Bool) (x11_2 : Bool), v10 = .bool x10_2 ∧ v11 = .bool x11_2 ∧ Aside0 (scrimref18_Share.l1 kq a1 x6_1 x7_2 x8_2 x10_2 x11_2 = some (r1, r2)) ∧ Aside0 (kq ≤ k1) ∧ Aside0 (Kd.R k74 74 w' w.heap.size (fun _ => True) u6 x6_1) ∧ Aside0 (Kd.R (Kd.int .i64) 2 w' w.heap.size (fun _ => True) u7 x7_2) ∧ Aside0 (Kd.R Kd.bool 4 w' w.heap.size (fun _ => True) u8 x8_2) ∧ Aside0 (Below w.heap.size w w'))
          case atStart => exact ⟨(x7_1), (x8_1), (true), (true), (by first | rfl | (simp; done) | (simp [*]; done)), (by first | rfl | (simp; done) | (simp [*]; done)), H', ⟨Nat.le_refl _⟩, ⟨by (with_reducible repeat (first | apply Kd.R_alloc | apply Kd.R_drewN | apply Kd.R_drew)); exact HO_6.out⟩, ⟨by (with_reducible repeat (first | apply Kd.R_alloc | apply Kd.R_drewN | apply Kd.R_drew)); exact HO_7.out⟩, ⟨by (with_reducible repeat (first | apply Kd.R_alloc | apply Kd.R_drewN | apply Kd.R_drew)); exact HO_8.out⟩, ⟨by repeat (first | (with_reducible first | exact HB.out | apply below_alloc | apply pw_below_drewN | apply below_drew1) | exact HB.out)⟩⟩
          case round =>
            as_aux_lemma =>
            clear H'
            try clear c1
            try clear p1
            try clear q1
            try clear hx1
            try clear p2
            try clear c3
            try clear c3b0
            try clear c3b1
            try clear p6
            try clear c10
            try clear c10b0
            try clear c11
            try clear c11b0
            try clear c13
            try clear c14
            try clear c15
            try clear c16
            try clear p19
            try clear q19
            try clear hx19
            try clear hx194_0
            try clear hx194_1
            try clear hx194_2
            try clear hx194_3
            try clear p194
            try clear p2
            try clear q194
            obtain ⟨x7_2, x8_2, x10_2, x11_2, rfl, rfl, HA, HK2, HO_6, HO_7, HO_8, HB⟩ := hrel
            cases gk with
            | zero => exact absurd HA.out (by simp [scrimref18_Share.l1])
            | succ k2 =>
              have H := HA.out
              clear HA
              simp only [scrimref18_Share.l1] at H
              by_cases c20 : x11_2 = true
              · subst c20
                have H1 : (scrimref18_Share.l2 k2 a1 x6_1 x7_2 x8_2 x10_2 false (([] : List Int)) 0 0 0) = some (r1, r2) := by rw [if_pos rfl] at H; exact H
                clear H
                have H := H1
                clear H1
                obtain ⟨y208, hy208⟩ : ∃ y_ : List Int, y_ = (([] : List Int)) := ⟨_, rfl⟩
                replace H : (scrimref18_Share.l2 k2 a1 x6_1 x7_2 x8_2 x10_2 false y208 0 0 0) = some (r1, r2) := by first | (rw [hy208]; with_reducible exact H) | (have H2_ := (Option.bind_some _ _).symm.trans H; rw [hy208]; with_reducible exact H2_) | (have H2_ := (Option.bind_some _ _).symm.trans H; with_reducible exact H2_) | with_reducible exact H | (rw [hy208]; exact H) | exact H
                have Ny208 := Aside0.mk hy208
                clear hy208
                have H' := Aside0.mk H
                clear H
                go_wp2_with (first | ((with_reducible refine gate_dst (N := 58) rfl ?_); refine Kd.R_lit (Kd.int .i64) _ 2 ?hg (N := 58) ?hd (xs := ([] : List Int)) (inner := []) (ok := fun _ => True) (okp := fun _ => True) ?hr ?hp (fun _ hk => hk) trivial (Below.refl _ _) (Nat.le_refl _) (by simp) ?_; (case hd => rfl); (case hg => rfl); (case hr => first | (go_simp; done) | (go_simp; rfl)); (case hp => exact (Reps.none _ _)); intro v209 w21 ho22 hb hg_ hnew_; clear hg_ hnew_; (first | rw [← Ny208.out] at ho22 | (simp only [Int.reduceToNat] at ho22; rw [← Ny208.out] at ho22)); have n0_ := Aside0.mk (Kd.R_below (by (with_reducible repeat (first | apply Kd.R_alloc | apply Kd.R_drewN | apply Kd.R_drew)); exact HO_6.out) hb); have n1_ := Aside0.mk (Kd.R_elder' (by (with_reducible repeat (first | apply Kd.R_alloc | apply Kd.R_drewN | apply Kd.R_drew)); exact HO_7.out) (Kd.R_base ho22) hb); have n2_ := Aside0.mk (Kd.R_below (by (with_reducible repeat (first | apply Kd.R_alloc | apply Kd.R_drewN | apply Kd.R_drew)); exact HO_8.out) hb); have n3_ := Aside0.mk (Kd.R_lower (Kd.R_new' ho22 (Kd.R_lt (by (with_reducible repeat (first | apply Kd.R_alloc | apply Kd.R_drewN | apply Kd.R_drew)); exact HO_7.out))) (below_size (by repeat (first | (with_reducible first | exact HB.out | apply below_alloc | apply pw_below_drewN | apply below_drew1) | exact HB.out)))); have n4_ := Aside0.mk (below_step (by repeat (first | (with_reducible first | exact HB.out | apply below_alloc | apply pw_below_drewN | apply below_drew1) | exact HB.out)) hb); clear HO_6; clear HO_7; clear HO_8; clear HB; have HO_6 := n0_; have HO_7 := n1_; have HO_8 := n2_; have HO210 := n3_; have HB := n4_; clear n0_ n1_ n2_ n3_ n4_; clear hb ho22))
                go_loopg [12, 13, 14, 15] k2 (fun kq v12 v13 v14 v15 w' => ∃ (x12_3 : List Int) (x13_3 : Int) (x14_3 : Int) (x15_3 : Int), v13 = .int .i64 x13_3 ∧ v14 = .int .i64 x14_3 ∧ v15 = .int .i64 x15_3 ∧ Aside0 (scrimref18_Share.l2 kq a1 x6_1 x7_2 x8_2 x10_2 false x12_3 x13_3 x14_3 x15_3 = some (r1, r2)) ∧ Aside0 (kq ≤ k2) ∧ Aside0 (Kd.R k74 74 w' w.heap.size (fun _ => True) u6 x6_1) ∧ Aside0 (Kd.R (Kd.int .i64) 2 w' w.heap.size (fun k_ => some k_ ≠ (v12 : Value).ownBlock) u7 x7_2) ∧ Aside0 (Kd.R Kd.bool 4 w' w.heap.size (fun _ => True) u8 x8_2) ∧ Aside0 (Kd.R (Kd.int .i64) 2 w' w.heap.size (fun k_ => some k_ ≠ (u7 : Value).ownBlock) v12 x12_3) ∧ Aside0 (Below w.heap.size w w'))
                case atStart => exact ⟨(y208), (0), (0), (0), (by first | rfl | (simp; done) | (simp [*]; done)), (by first | rfl | (simp; done) | (simp [*]; done)), (by first | rfl | (simp; done) | (simp [*]; done)), H', ⟨Nat.le_refl _⟩, ⟨by (with_reducible repeat (first | apply Kd.R_alloc | apply Kd.R_drewN | apply Kd.R_drew)); exact HO_6.out⟩, ⟨by (with_reducible repeat (first | apply Kd.R_alloc | apply Kd.R_drewN | apply Kd.R_drew)); exact Kd.R_mono HO_7.out (fun _ hk => hk.2)⟩, ⟨by (with_reducible repeat (first | apply Kd.R_alloc | apply Kd.R_drewN | apply Kd.R_drew)); exact HO_8.out⟩, ⟨by (with_reducible repeat (first | apply Kd.R_alloc | apply Kd.R_drewN | apply Kd.R_drew)); exact Kd.R_mono HO210.out (fun _ hk => hk.2)⟩, ⟨by repeat (first | (with_reducible first | exact HB.out | apply below_alloc | apply pw_below_drewN | apply below_drew1) | exact HB.out)⟩⟩
                case round =>
                  as_aux_lemma =>
                  clear H'
                  try clear c1
                  try clear p1
                  try clear q1
                  try clear hx1
                  try clear c2
                  try clear p2
                  try clear c3
                  try clear c3b0
                  try clear c3b1
                  try clear p6
                  try clear c10
                  try clear c10b0
                  try clear c11
                  try clear c11b0
                  try clear c13
                  try clear c14
                  try clear c15
                  try clear c16
                  try clear p19
                  try clear q19
                  try clear hx19
                  try clear c20
                  try clear hx194_0
                  try clear hx194_1
                  try clear hx194_2
                  try clear hx194_3
                  try clear p1
                  try clear p19
                  try clear p194
                  try clear p2
                  try clear p6
                  try clear q1
                  try clear q19
                  try clear q194
                  obtain ⟨x12_3, x13_3, x14_3, x15_3, rfl, rfl, rfl, HA, HK3, HO_6, HO_7, HO_8, HO_12, HB⟩ := hrel
                  cases gk with
                  | zero => exact absurd HA.out (by simp [scrimref18_Share.l2])
                  | succ k3 =>
                    have H := HA.out
                    clear HA
                    simp only [scrimref18_Share.l2] at H
                    by_cases c23 : x15_3 < (x6_1.length : Int)
                    · rw [if_pos c23] at H
                      have c23b0 : decide (x15_3 < (x6_1.length : Int)) = true := decide_eq_true c23
                      clear c23
                      by_cases c24 : 0 ≤ x15_3
                      · rw [if_pos c24] at H
                        have c24b0 : decide (0 ≤ x15_3) = true := decide_eq_true c24
                        clear c24
                        by_cases c25 : x15_3 < (x8_2.length : Int)
                        · rw [if_pos c25] at H
                          have c25b0 : decide (x15_3 < (x8_2.length : Int)) = true := decide_eq_true c25
                          clear c25
                          obtain ⟨bq26, hbq26⟩ : ∃ b_ : Bool, b_ = (rdOf false x8_2 x15_3) := ⟨_, rfl⟩
                          replace H : (if bq26 = true then (if x15_3 < (x7_2.length : Int) then ((some (([(rd_T74 x6_1 x15_3).f1, rd x7_2 x15_3] : List Int) : List Int)).bind fun y215 => (if x12_3.length + y215.length < 17592186044416 then (scrimref18_Share.l2 k3 a1 x6_1 x7_2 x8_2 x10_2 false (x12_3 ++ y215) x13_3 x14_3 (wrap64 (x15_3 + 1))) else (none))) else (none)) else ((some (([(rd_T74 x6_1 x15_3).f1, (rd_T74 x6_1 x15_3).f0] : List Int) : List Int)).bind fun y224 => (if x12_3.length + y224.length < 17592186044416 then (scrimref18_Share.l2 k3 a1 x6_1 x7_2 x8_2 x10_2 false (x12_3 ++ y224) (wrap64 (x13_3 + ((rd_T74 x6_1 x15_3).f2))) (wrap64 (x14_3 + ((rd_T74 x6_1 x15_3).f3))) (wrap64 (x15_3 + 1))) else (none)))) = some (r1, r2) := by rw [← hbq26] at H; exact H
                          have Nbq26 := Aside0.mk hbq26
                          clear hbq26
                          by_cases c27 : bq26 = true
                          · subst c27
                            have H1 : (if x15_3 < (x7_2.length : Int) then ((some (([(rd_T74 x6_1 x15_3).f1, rd x7_2 x15_3] : List Int) : List Int)).bind fun y215 => (if x12_3.length + y215.length < 17592186044416 then (scrimref18_Share.l2 k3 a1 x6_1 x7_2 x8_2 x10_2 false (x12_3 ++ y215) x13_3 x14_3 (wrap64 (x15_3 + 1))) else (none))) else (none)) = some (r1, r2) := by rw [if_pos rfl] at H; exact H
                            clear H
                            have H := H1
                            clear H1
                            by_cases c28 : x15_3 < (x7_2.length : Int)
                            · rw [if_pos c28] at H
                              have c28b0 : decide (x15_3 < (x7_2.length : Int)) = true := decide_eq_true c28
                              clear c28
                              obtain ⟨y215, hy215⟩ : ∃ y_ : List Int, y_ = (([(rd_T74 x6_1 x15_3).f1, rd x7_2 x15_3] : List Int)) := ⟨_, rfl⟩
                              replace H : (if x12_3.length + y215.length < 17592186044416 then (scrimref18_Share.l2 k3 a1 x6_1 x7_2 x8_2 x10_2 false (x12_3 ++ y215) x13_3 x14_3 (wrap64 (x15_3 + 1))) else (none)) = some (r1, r2) := by first | (rw [hy215]; with_reducible exact H) | (have H2_ := (Option.bind_some _ _).symm.trans H; rw [hy215]; with_reducible exact H2_) | (have H2_ := (Option.bind_some _ _).symm.trans H; with_reducible exact H2_) | with_reducible exact H | (rw [hy215]; exact H) | exact H
                              have Ny215 := Aside0.mk hy215
                              clear hy215
                              by_cases c29 : x12_3.length + y215.length < 17592186044416
                              · rw [if_pos c29] at H
                                have LMc29 := Aside0.mk c29
                                clear c29
                                obtain ⟨y218, hy218⟩ : ∃ y_ : List Int, y_ = (x12_3 ++ y215) := ⟨_, rfl⟩
                                replace H : (scrimref18_Share.l2 k3 a1 x6_1 x7_2 x8_2 x10_2 false y218 x13_3 x14_3 (wrap64 (x15_3 + 1))) = some (r1, r2) := by first | (rw [hy218]; with_reducible exact H) | (have H2_ := (Option.bind_some _ _).symm.trans H; rw [hy218]; with_reducible exact H2_) | (have H2_ := (Option.bind_some _ _).symm.trans H; with_reducible exact H2_) | with_reducible exact H | (rw [hy218]; exact H) | exact H
                                have Ny218 := Aside0.mk hy218
                                clear hy218
                                have H' := Aside0.mk H
                                clear H
                                obtain ⟨Ao30, co30, eo30⟩ := Kd.R_slice HO_6.out
                                subst eo30
                                have p211 : 0 ≤ (x15_3 : Int) := of_decide_eq_true (by first | (with_reducible assumption) | assumption)
                                have q211 : x15_3 < (x6_1.length : Int) := of_decide_eq_true (by first | (with_reducible assumption) | assumption)
                                obtain ⟨ad211, e211, hx211_0, hx211_1, hx211_2, hx211_3⟩ := at_T74 (Kd.R_reads' HO_6.out).2.2 x15_3 p211 q211
                                cases e211
                                replace p211 := eq_true p211
                                replace q211 := eq_true q211
                                obtain ⟨Ao31, co31, eo31⟩ := Kd.R_slice HO_8.out
                                subst eo31
                                have p212 : 0 ≤ (x15_3 : Int) := of_decide_eq_true (by first | (with_reducible assumption) | assumption)
                                have q212 : x15_3 < (x8_2.length : Int) := of_decide_eq_true (by first | (with_reducible assumption) | assumption)
                                obtain ⟨ad212, e212, hx212_0⟩ := Kd.at_bool (Kd.R_reads' HO_8.out).2.2 x15_3 p212 q212
                                (try rw [← Nbq26.out] at hx212_0)
                                cases e212
                                replace p212 := eq_true p212
                                replace q212 := eq_true q212
                                obtain ⟨Ao32, co32, eo32⟩ := Kd.R_slice HO_7.out
                                subst eo32
                                have p213 : 0 ≤ (x15_3 : Int) := of_decide_eq_true (by first | (with_reducible assumption) | assumption)
                                have q213 : x15_3 < (x7_2.length : Int) := of_decide_eq_true (by first | (with_reducible assumption) | assumption)
                                obtain ⟨ad213, e213, hx213_0⟩ := Kd.at_int (Kd.R_reads' HO_7.out).2.2 x15_3 p213 q213
                                cases e213
                                replace p213 := eq_true p213
                                replace q213 := eq_true q213
                                have p214 : 0 ≤ (x15_3 : Int) := of_decide_eq_true (by first | (with_reducible assumption) | assumption)
                                have q214 : x15_3 < (x6_1.length : Int) := of_decide_eq_true (by first | (with_reducible assumption) | assumption)
                                obtain ⟨ad214, e214, hx214_0, hx214_1, hx214_2, hx214_3⟩ := at_T74 (Kd.R_reads' HO_6.out).2.2 x15_3 p214 q214
                                obtain rfl : ad211 = ad214 := (by injection e214)
                                replace p214 := eq_true p214
                                replace q214 := eq_true q214
                                go_wp2_with (first | ((with_reducible refine gate_dst (N := 99) rfl ?_); refine Kd.R_lit (Kd.int .i64) _ 2 ?hg (N := 99) ?hd (xs := ([(rd_T74 x6_1 x15_3).f1, rd x7_2 x15_3] : List Int)) (inner := [.int .i64 ((rd_T74 x6_1 x15_3).f1), .int .i64 (rd x7_2 x15_3)]) (ok := fun _ => True) (okp := fun _ => True) ?hr ?hp (fun _ hk => hk) trivial (Below.refl _ _) (Nat.le_refl _) (by simp) ?_; (case hd => rfl); (case hg => rfl); (case hr => first | (go_simp; done) | (go_simp; rfl)); (case hp => exact (Reps.one (show Kd.M (Kd.int .i64) _ _ _ ((rd_T74 x6_1 x15_3).f1) [.int .i64 ((rd_T74 x6_1 x15_3).f1)] from rfl) (Reps.one (show Kd.M (Kd.int .i64) _ _ _ (rd x7_2 x15_3) [.int .i64 (rd x7_2 x15_3)] from rfl) (Reps.none _ _)))); intro v216 w33 ho34 hb hg_ hnew_; clear hg_ hnew_; (first | rw [← Ny215.out] at ho34 | (simp only [Int.reduceToNat] at ho34; rw [← Ny215.out] at ho34)); have n0_ := Aside0.mk (Kd.R_below (by (with_reducible repeat (first | apply Kd.R_alloc | apply Kd.R_drewN | apply Kd.R_drew)); exact HO_6.out) hb); have n1_ := Aside0.mk (Kd.R_elder' (by (with_reducible repeat (first | apply Kd.R_alloc | apply Kd.R_drewN | apply Kd.R_drew)); exact HO_7.out) (Kd.R_base ho34) hb); have n2_ := Aside0.mk (Kd.R_below (by (with_reducible repeat (first | apply Kd.R_alloc | apply Kd.R_drewN | apply Kd.R_drew)); exact HO_8.out) hb); have n3_ := Aside0.mk (Kd.R_elder' (by (with_reducible repeat (first | apply Kd.R_alloc | apply Kd.R_drewN | apply Kd.R_drew)); exact HO_12.out) (Kd.R_base ho34) hb); have n4_ := Aside0.mk (Kd.R_lower (Kd.R_new' (Kd.R_new' ho34 (Kd.R_lt (by (with_reducible repeat (first | apply Kd.R_alloc | apply Kd.R_drewN | apply Kd.R_drew)); exact HO_7.out))) (Kd.R_lt (by (with_reducible repeat (first | apply Kd.R_alloc | apply Kd.R_drewN | apply Kd.R_drew)); exact HO_12.out))) (below_size (by repeat (first | (with_reducible first | exact HB.out | apply below_alloc | apply pw_below_drewN | apply below_drew1) | exact HB.out)))); have n5_ := Aside0.mk (below_step (by repeat (first | (with_reducible first | exact HB.out | apply below_alloc | apply pw_below_drewN | apply below_drew1) | exact HB.out)) hb); clear HO_6; clear HO_7; clear HO_8; clear HO_12; clear HB; have HO_6 := n0_; have HO_7 := n1_; have HO_8 := n2_; have HO_12 := n3_; have HO217 := n4_; have HB := n5_; clear n0_ n1_ n2_ n3_ n4_ n5_; clear hb ho34; obtain ⟨Ao36, co36, eo36⟩ := Kd.R_slice HO217.out; subst eo36) | ((with_reducible refine gate_builtin (b := .append) (xs := #[.tmp 92, .tmp 99]) rfl ?_); at_builtin; refine Kd.R_append_rows (Kd.int .i64) (w0 := w) w.heap.size rfl (.tmp 92) (.tmp 99) 28 2 (.int .i64 0) 8 rfl Try.underlying28 info2 rfl (by decide) (by omega) u12 x12_3 y215 _ _ _ (fun k_ => some k_ ≠ (.slice (some ad213) x7_2.length co32 : Value).ownBlock ∧ some k_ ≠ (.slice Ao36 y215.length co36 : Value).ownBlock) (fun _ => False) rfl rfl ?aO ?aR (fun _ _ h => h) (fun _ h => h.elim) ?aF ?aB ?aS ?aL ?_; (case aR => repeat (first | exact (Kd.R_reads' HO217.out).2.2 | (with_reducible refine Kd.C_alloc ?_ _) | (with_reducible refine Kd.C_drewN ?_ _) | (with_reducible refine Kd.C_drew ?_))); (case aB => exact (by repeat (first | (with_reducible first | exact HB.out | apply below_alloc | apply pw_below_drewN | apply below_drew1) | exact HB.out))); (case aF => exact (fun k_ hk => ⟨Kd.fresh' (Kd.R_lt (by (with_reducible repeat (first | apply Kd.R_alloc | apply Kd.R_drewN | apply Kd.R_drew)); exact HO_7.out)) k_ hk, Kd.fresh' (Kd.R_lt (by (with_reducible repeat (first | apply Kd.R_alloc | apply Kd.R_drewN | apply Kd.R_drew)); exact HO217.out)) k_ hk⟩)); (case aO => exact (by (with_reducible repeat (first | apply Kd.R_alloc | apply Kd.R_drewN | apply Kd.R_drew)); exact HO_12.out)); (case aS => exact (below_size (by repeat (first | (with_reducible first | exact HB.out | apply below_alloc | apply pw_below_drewN | apply below_drew1) | exact HB.out)))); (case aL => have := LMc29.out; omega); intro v219 w35 ho hb hg hat; rw [← Ny218.out] at ho; have n0_ := Aside0.mk (Kd.R_over' (by (with_reducible repeat (first | apply Kd.R_alloc | apply Kd.R_drewN | apply Kd.R_drew)); exact HO_6.out) (Kd.R_typed (by (with_reducible repeat (first | apply Kd.R_alloc | apply Kd.R_drewN | apply Kd.R_drew)); exact HO_12.out)) (by decide) hg); have n1_ := Aside0.mk (Kd.R_after (ok := (fun k_ => some k_ ≠ (.slice Ao36 y215.length co36 : Value).ownBlock)) (by (with_reducible repeat (first | apply Kd.R_alloc | apply Kd.R_drewN | apply Kd.R_drew)); exact Kd.R_mono HO_7.out (fun _ hk => ⟨hk.2, hk.1⟩)) hg hat); have n2_ := Aside0.mk (Kd.R_over' (by (with_reducible repeat (first | apply Kd.R_alloc | apply Kd.R_drewN | apply Kd.R_drew)); exact HO_8.out) (Kd.R_typed (by (with_reducible repeat (first | apply Kd.R_alloc | apply Kd.R_drewN | apply Kd.R_drew)); exact HO_12.out)) (by decide) hg); have n3_ := Aside0.mk (Kd.R_after (ok := (fun k_ => some k_ ≠ (.slice (some ad213) x7_2.length co32 : Value).ownBlock)) (by (with_reducible repeat (first | apply Kd.R_alloc | apply Kd.R_drewN | apply Kd.R_drew)); exact Kd.R_mono HO217.out (fun _ hk => ⟨hk.1.2, hk.2⟩)) hg hat); have n4_ := Aside0.mk (hb); have n5_ := Aside0.mk (ho); clear HO_6; clear HO_7; clear HO_8; clear HO217; clear HB; clear HO_12; have HO_6 := n0_; have HO_7 := n1_; have HO_8 := n2_; have HO217 := n3_; have HB := n4_; have HO220 := n5_; clear n0_ n1_ n2_ n3_ n4_ n5_; clear ho hb hg hat))
                                go_roundg k3
                                case measure => have := HK1.out; have := HK2.out; have := HK3.out; omega
                                case rel => exact ⟨(y218), (x13_3), (x14_3), (wrap64 (x15_3 + 1)), (by first | rfl | (simp; done) | (simp [*]; done)), (by first | rfl | (simp; done) | (simp [*]; done)), (by first | rfl | (simp; done) | (simp [*]; done)), H', ⟨by have := HK1.out; have := HK2.out; have := HK3.out; omega⟩, ⟨by (with_reducible repeat (first | apply Kd.R_alloc | apply Kd.R_drewN | apply Kd.R_drew)); exact HO_6.out⟩, ⟨by (with_reducible repeat (first | apply Kd.R_alloc | apply Kd.R_drewN | apply Kd.R_drew)); exact Kd.R_mono HO_7.out (fun _ hk => hk.2)⟩, ⟨by (with_reducible repeat (first | apply Kd.R_alloc | apply Kd.R_drewN | apply Kd.R_drew)); exact HO_8.out⟩, ⟨by (with_reducible repeat (first | apply Kd.R_alloc | apply Kd.R_drewN | apply Kd.R_drew)); exact Kd.R_mono HO220.out (fun _ hk => hk.1)⟩, ⟨by repeat (first | (with_reducible first | exact HB.out | apply below_alloc | apply pw_below_drewN | apply below_drew1) | exact HB.out)⟩⟩
                              · rw [if_neg c29] at H
                                exact absurd H (by simp)
                            · rw [if_neg c28] at H
                              exact absurd H (by simp)
                          · replace c27 := Bool.eq_false_iff.mpr c27
                            subst c27
                            have H1 : ((some (([(rd_T74 x6_1 x15_3).f1, (rd_T74 x6_1 x15_3).f0] : List Int) : List Int)).bind fun y224 => (if x12_3.length + y224.length < 17592186044416 then (scrimref18_Share.l2 k3 a1 x6_1 x7_2 x8_2 x10_2 false (x12_3 ++ y224) (wrap64 (x13_3 + ((rd_T74 x6_1 x15_3).f2))) (wrap64 (x14_3 + ((rd_T74 x6_1 x15_3).f3))) (wrap64 (x15_3 + 1))) else (none))) = some (r1, r2) := by rw [if_neg (show ¬ (false = true) by decide)] at H; exact H
                            clear H
                            have H := H1
                            clear H1
                            obtain ⟨y224, hy224⟩ : ∃ y_ : List Int, y_ = (([(rd_T74 x6_1 x15_3).f1, (rd_T74 x6_1 x15_3).f0] : List Int)) := ⟨_, rfl⟩
                            replace H : (if x12_3.length + y224.length < 17592186044416 then (scrimref18_Share.l2 k3 a1 x6_1 x7_2 x8_2 x10_2 false (x12_3 ++ y224) (wrap64 (x13_3 + ((rd_T74 x6_1 x15_3).f2))) (wrap64 (x14_3 + ((rd_T74 x6_1 x15_3).f3))) (wrap64 (x15_3 + 1))) else (none)) = some (r1, r2) := by first | (rw [hy224]; with_reducible exact H) | (have H2_ := (Option.bind_some _ _).symm.trans H; rw [hy224]; with_reducible exact H2_) | (have H2_ := (Option.bind_some _ _).symm.trans H; with_reducible exact H2_) | with_reducible exact H | (rw [hy224]; exact H) | exact H
                            have Ny224 := Aside0.mk hy224
                            clear hy224
                            by_cases c37 : x12_3.length + y224.length < 17592186044416
                            · rw [if_pos c37] at H
                              have LMc37 := Aside0.mk c37
                              clear c37
                              obtain ⟨y227, hy227⟩ : ∃ y_ : List Int, y_ = (x12_3 ++ y224) := ⟨_, rfl⟩
                              replace H : (scrimref18_Share.l2 k3 a1 x6_1 x7_2 x8_2 x10_2 false y227 (wrap64 (x13_3 + ((rd_T74 x6_1 x15_3).f2))) (wrap64 (x14_3 + ((rd_T74 x6_1 x15_3).f3))) (wrap64 (x15_3 + 1))) = some (r1, r2) := by first | (rw [hy227]; with_reducible exact H) | (have H2_ := (Option.bind_some _ _).symm.trans H; rw [hy227]; with_reducible exact H2_) | (have H2_ := (Option.bind_some _ _).symm.trans H; with_reducible exact H2_) | with_reducible exact H | (rw [hy227]; exact H) | exact H
                              have Ny227 := Aside0.mk hy227
                              clear hy227
                              have H' := Aside0.mk H
                              clear H
                              obtain ⟨Ao38, co38, eo38⟩ := Kd.R_slice HO_6.out
                              subst eo38
                              have p211 : 0 ≤ (x15_3 : Int) := of_decide_eq_true (by first | (with_reducible assumption) | assumption)
                              have q211 : x15_3 < (x6_1.length : Int) := of_decide_eq_true (by first | (with_reducible assumption) | assumption)
                              obtain ⟨ad211, e211, hx211_0, hx211_1, hx211_2, hx211_3⟩ := at_T74 (Kd.R_reads' HO_6.out).2.2 x15_3 p211 q211
                              cases e211
                              replace p211 := eq_true p211
                              replace q211 := eq_true q211
                              obtain ⟨Ao39, co39, eo39⟩ := Kd.R_slice HO_8.out
                              subst eo39
                              have p212 : 0 ≤ (x15_3 : Int) := of_decide_eq_true (by first | (with_reducible assumption) | assumption)
                              have q212 : x15_3 < (x8_2.length : Int) := of_decide_eq_true (by first | (with_reducible assumption) | assumption)
                              obtain ⟨ad212, e212, hx212_0⟩ := Kd.at_bool (Kd.R_reads' HO_8.out).2.2 x15_3 p212 q212
                              (try rw [← Nbq26.out] at hx212_0)
                              cases e212
                              replace p212 := eq_true p212
                              replace q212 := eq_true q212
                              have p221 : 0 ≤ (x15_3 : Int) := of_decide_eq_true (by first | (with_reducible assumption) | assumption)
                              have q221 : x15_3 < (x6_1.length : Int) := of_decide_eq_true (by first | (with_reducible assumption) | assumption)
                              obtain ⟨ad221, e221, hx221_0, hx221_1, hx221_2, hx221_3⟩ := at_T74 (Kd.R_reads' HO_6.out).2.2 x15_3 p221 q221
                              obtain rfl : ad211 = ad221 := (by injection e221)
                              replace p221 := eq_true p221
                              replace q221 := eq_true q221
                              have p222 : 0 ≤ (x15_3 : Int) := of_decide_eq_true (by first | (with_reducible assumption) | assumption)
                              have q222 : x15_3 < (x6_1.length : Int) := of_decide_eq_true (by first | (with_reducible assumption) | assumption)
                              obtain ⟨ad222, e222, hx222_0, hx222_1, hx222_2, hx222_3⟩ := at_T74 (Kd.R_reads' HO_6.out).2.2 x15_3 p222 q222
                              obtain rfl : ad211 = ad222 := (by injection e222)
                              replace p222 := eq_true p222
                              replace q222 := eq_true q222
                              have p223 : 0 ≤ (x15_3 : Int) := of_decide_eq_true (by first | (with_reducible assumption) | assumption)
                              have q223 : x15_3 < (x6_1.length : Int) := of_decide_eq_true (by first | (with_reducible assumption) | assumption)
                              obtain ⟨ad223, e223, hx223_0, hx223_1, hx223_2, hx223_3⟩ := at_T74 (Kd.R_reads' HO_6.out).2.2 x15_3 p223 q223
                              obtain rfl : ad211 = ad223 := (by injection e223)
                              replace p223 := eq_true p223
                              replace q223 := eq_true q223
                              go_wp2_with (first | ((with_reducible refine gate_dst (N := 99) rfl ?_); refine Kd.R_lit (Kd.int .i64) _ 2 ?hg (N := 99) ?hd (xs := ([(rd_T74 x6_1 x15_3).f1, (rd_T74 x6_1 x15_3).f0] : List Int)) (inner := [.int .i64 ((rd_T74 x6_1 x15_3).f1), .int .i64 ((rd_T74 x6_1 x15_3).f0)]) (ok := fun _ => True) (okp := fun _ => True) ?hr ?hp (fun _ hk => hk) trivial (Below.refl _ _) (Nat.le_refl _) (by simp) ?_; (case hd => rfl); (case hg => rfl); (case hr => first | (go_simp; done) | (go_simp; rfl)); (case hp => exact (Reps.one (show Kd.M (Kd.int .i64) _ _ _ ((rd_T74 x6_1 x15_3).f1) [.int .i64 ((rd_T74 x6_1 x15_3).f1)] from rfl) (Reps.one (show Kd.M (Kd.int .i64) _ _ _ ((rd_T74 x6_1 x15_3).f0) [.int .i64 ((rd_T74 x6_1 x15_3).f0)] from rfl) (Reps.none _ _)))); intro v225 w40 ho41 hb hg_ hnew_; clear hg_ hnew_; (first | rw [← Ny224.out] at ho41 | (simp only [Int.reduceToNat] at ho41; rw [← Ny224.out] at ho41)); have n0_ := Aside0.mk (Kd.R_below (by (with_reducible repeat (first | apply Kd.R_alloc | apply Kd.R_drewN | apply Kd.R_drew)); exact HO_6.out) hb); have n1_ := Aside0.mk (Kd.R_elder' (by (with_reducible repeat (first | apply Kd.R_alloc | apply Kd.R_drewN | apply Kd.R_drew)); exact HO_7.out) (Kd.R_base ho41) hb); have n2_ := Aside0.mk (Kd.R_below (by (with_reducible repeat (first | apply Kd.R_alloc | apply Kd.R_drewN | apply Kd.R_drew)); exact HO_8.out) hb); have n3_ := Aside0.mk (Kd.R_elder' (by (with_reducible repeat (first | apply Kd.R_alloc | apply Kd.R_drewN | apply Kd.R_drew)); exact HO_12.out) (Kd.R_base ho41) hb); have n4_ := Aside0.mk (Kd.R_lower (Kd.R_new' (Kd.R_new' ho41 (Kd.R_lt (by (with_reducible repeat (first | apply Kd.R_alloc | apply Kd.R_drewN | apply Kd.R_drew)); exact HO_7.out))) (Kd.R_lt (by (with_reducible repeat (first | apply Kd.R_alloc | apply Kd.R_drewN | apply Kd.R_drew)); exact HO_12.out))) (below_size (by repeat (first | (with_reducible first | exact HB.out | apply below_alloc | apply pw_below_drewN | apply below_drew1) | exact HB.out)))); have n5_ := Aside0.mk (below_step (by repeat (first | (with_reducible first | exact HB.out | apply below_alloc | apply pw_below_drewN | apply below_drew1) | exact HB.out)) hb); clear HO_6; clear HO_7; clear HO_8; clear HO_12; clear HB; have HO_6 := n0_; have HO_7 := n1_; have HO_8 := n2_; have HO_12 := n3_; have HO226 := n4_; have HB := n5_; clear n0_ n1_ n2_ n3_ n4_ n5_; clear hb ho41; obtain ⟨Ao43, co43, eo43⟩ := Kd.R_slice HO226.out; subst eo43) | ((with_reducible refine gate_builtin (b := .append) (xs := #[.tmp 92, .tmp 99]) rfl ?_); at_builtin; refine Kd.R_append_rows (Kd.int .i64) (w0 := w) w.heap.size rfl (.tmp 92) (.tmp 99) 28 2 (.int .i64 0) 8 rfl Try.underlying28 info2 rfl (by decide) (by omega) u12 x12_3 y224 _ _ _ (fun k_ => some k_ ≠ (u7 : Value).ownBlock ∧ some k_ ≠ (.slice Ao43 y224.length co43 : Value).ownBlock) (fun _ => False) rfl rfl ?aO ?aR (fun _ _ h => h) (fun _ h => h.elim) ?aF ?aB ?aS ?aL ?_; (case aR => repeat (first | exact (Kd.R_reads' HO226.out).2.2 | (with_reducible refine Kd.C_alloc ?_ _) | (with_reducible refine Kd.C_drewN ?_ _) | (with_reducible refine Kd.C_drew ?_))); (case aB => exact (by repeat (first | (with_reducible first | exact HB.out | apply below_alloc | apply pw_below_drewN | apply below_drew1) | exact HB.out))); (case aF => exact (fun k_ hk => ⟨Kd.fresh' (Kd.R_lt (by (with_reducible repeat (first | apply Kd.R_alloc | apply Kd.R_drewN | apply Kd.R_drew)); exact HO_7.out)) k_ hk, Kd.fresh' (Kd.R_lt (by (with_reducible repeat (first | apply Kd.R_alloc | apply Kd.R_drewN | apply Kd.R_drew)); exact HO226.out)) k_ hk⟩)); (case aO => exact (by (with_reducible repeat (first | apply Kd.R_alloc | apply Kd.R_drewN | apply Kd.R_drew)); exact HO_12.out)); (case aS => exact (below_size (by repeat (first | (with_reducible first | exact HB.out | apply below_alloc | apply pw_below_drewN | apply below_drew1) | exact HB.out)))); (case aL => have := LMc37.out; omega); intro v228 w42 ho hb hg hat; rw [← Ny227.out] at ho; have n0_ := Aside0.mk (Kd.R_over' (by (with_reducible repeat (first | apply Kd.R_alloc | apply Kd.R_drewN | apply Kd.R_drew)); exact HO_6.out) (Kd.R_typed (by (with_reducible repeat (first | apply Kd.R_alloc | apply Kd.R_drewN | apply Kd.R_drew)); exact HO_12.out)) (by decide) hg); have n1_ := Aside0.mk (Kd.R_after (ok := (fun k_ => some k_ ≠ (.slice Ao43 y224.length co43 : Value).ownBlock)) (by (with_reducible repeat (first | apply Kd.R_alloc | apply Kd.R_drewN | apply Kd.R_drew)); exact Kd.R_mono HO_7.out (fun _ hk => ⟨hk.2, hk.1⟩)) hg hat); have n2_ := Aside0.mk (Kd.R_over' (by (with_reducible repeat (first | apply Kd.R_alloc | apply Kd.R_drewN | apply Kd.R_drew)); exact HO_8.out) (Kd.R_typed (by (with_reducible repeat (first | apply Kd.R_alloc | apply Kd.R_drewN | apply Kd.R_drew)); exact HO_12.out)) (by decide) hg); have n3_ := Aside0.mk (Kd.R_after (ok := (fun k_ => some k_ ≠ (u7 : Value).ownBlock)) (by (with_reducible repeat (first | apply Kd.R_alloc | apply Kd.R_drewN | apply Kd.R_drew)); exact Kd.R_mono HO226.out (fun _ hk => ⟨hk.1.2, hk.2⟩)) hg hat); have n4_ := Aside0.mk (hb); have n5_ := Aside0.mk (ho); clear HO_6; clear HO_7; clear HO_8; clear HO226; clear HB; clear HO_12; have HO_6 := n0_; have HO_7 := n1_; have HO_8 := n2_; have HO226 := n3_; have HB := n4_; have HO229 := n5_; clear n0_ n1_ n2_ n3_ n4_ n5_; clear ho hb hg hat))
                              go_roundg k3
                              case measure => have := HK1.out; have := HK2.out; have := HK3.out; omega
                              case rel => exact ⟨(y227), (wrap64 (x13_3 + ((rd_T74 x6_1 x15_3).f2))), (wrap64 (x14_3 + ((rd_T74 x6_1 x15_3).f3))), (wrap64 (x15_3 + 1)), (by first | rfl | (simp; done) | (simp [*]; done)), (by first | rfl | (simp; done) | (simp [*]; done)), (by first | rfl | (simp; done) | (simp [*]; done)), H', ⟨by have := HK1.out; have := HK2.out; have := HK3.out; omega⟩, ⟨by (with_reducible repeat (first | apply Kd.R_alloc | apply Kd.R_drewN | apply Kd.R_drew)); exact HO_6.out⟩, ⟨by (with_reducible repeat (first | apply Kd.R_alloc | apply Kd.R_drewN | apply Kd.R_drew)); exact Kd.R_mono HO_7.out (fun _ hk => hk.2)⟩, ⟨by (with_reducible repeat (first | apply Kd.R_alloc | apply Kd.R_drewN | apply Kd.R_drew)); exact HO_8.out⟩, ⟨by (with_reducible repeat (first | apply Kd.R_alloc | apply Kd.R_drewN | apply Kd.R_drew)); exact Kd.R_mono HO229.out (fun _ hk => hk.1)⟩, ⟨by repeat (first | (with_reducible first | exact HB.out | apply below_alloc | apply pw_below_drewN | apply below_drew1) | exact HB.out)⟩⟩
                            · rw [if_neg c37] at H
                              exact absurd H (by simp)
                        · rw [if_neg c25] at H
                          exact absurd H (by simp)
                      · rw [if_neg c24] at H
                        exact absurd H (by simp)
                    · rw [if_neg c23] at H
                      have c23b0 : decide (x15_3 < (x6_1.length : Int)) = false := decide_eq_false c23
                      clear c23
                      replace H := Option.bind_eq_some_iff.mp H
                      obtain ⟨⟨t230, t231⟩, A440, H⟩ := H
                      replace H : ((scrimref01_Sub.f a1 t230).bind fun bt232 => (if x10_2 = true then (if t231 = true then (scrimref18_Share.j3 k3 a1 x6_1 x7_2 x8_2 bt232.2 false x13_3 x14_3 bt232.1) else (scrimref18_Share.j3 k3 a1 x6_1 x7_2 x8_2 false false x13_3 x14_3 bt232.1)) else (scrimref18_Share.j3 k3 a1 x6_1 x7_2 x8_2 false false x13_3 x14_3 bt232.1))) = some (r1, r2) := H
                      have A44 := Aside0.mk A440
                      clear A440
                      replace H := Option.bind_eq_some_iff.mp H
                      obtain ⟨⟨t232, t233⟩, A450, H⟩ := H
                      replace H : (if x10_2 = true then (if t231 = true then (scrimref18_Share.j3 k3 a1 x6_1 x7_2 x8_2 t233 false x13_3 x14_3 t232) else (scrimref18_Share.j3 k3 a1 x6_1 x7_2 x8_2 false false x13_3 x14_3 t232)) else (scrimref18_Share.j3 k3 a1 x6_1 x7_2 x8_2 false false x13_3 x14_3 t232)) = some (r1, r2) := H
                      have A45 := Aside0.mk A450
                      clear A450
                      have HC46 := Aside0.mk H
                      clear H
                      obtain ⟨Ao47, co47, eo47⟩ := Kd.R_slice HO_6.out
                      subst eo47
                      obtain ⟨Ao48, co48, eo48⟩ := Kd.R_slice HO_12.out
                      subst eo48
                      go_upto_region 30 with (first | ((with_reducible refine gate_callee (f := 40) rfl ?_); refine goesL_ (some 103) rfl rfl Try.func40 (by kernel_rfl) rfl #[.slice Ao48 x12_3.length co48] rfl (by (try simp only [List.map_toArray, List.map_cons, List.map_nil]); first | done | rfl | (simp only [List.length_drop, List.length_take]; rfl)) ?_; (with_reducible refine (scrimref01_Sum.calls k3 _ _ x12_3 t230 t231 _ ?side1 ?side2 A44.out).mono ?_); (case side1 => repeat (first | exact (Kd.R_reads' HO_12.out).2.2 | (with_reducible refine Kd.C_alloc ?_ _) | (with_reducible refine Kd.C_drewN ?_ _) | (with_reducible refine Kd.C_drew ?_))); (case side2 => exact (Kd.R_reads' HO_12.out).2.1); rintro e w' ⟨rfl, ⟨nd, rfl⟩⟩; refine ⟨_, rfl, ?_⟩) | ((with_reducible refine gate_callee (f := 41) rfl ?_); refine goesL_ (some 109) rfl rfl Try.func41 (by kernel_rfl) rfl #[.int .i64 a1, .int .i64 t230] rfl (by (try simp only [List.map_toArray, List.map_cons, List.map_nil]); first | done | rfl | (simp only [List.length_drop, List.length_take]; rfl)) ?_; (with_reducible refine (scrimref01_Sub.calls a1 t230 t232 t233 _ A45.out).mono ?_); rintro e w' ⟨rfl, ⟨nd, rfl⟩⟩; refine ⟨_, rfl, ?_⟩))
                      (try simp only [Act.put, List.setIfInBounds_toArray, List.set_cons_zero, List.set_cons_succ])
                      go_cut [10] (fun v10 wc => ∃ (kq : Nat) (x10_45 : Bool), v10 = .bool x10_45 ∧ Aside0 (scrimref18_Share.j3 kq a1 x6_1 x7_2 x8_2 x10_45 false x13_3 x14_3 t232 = some (r1, r2)) ∧ Aside0 (kq ≤ k3) ∧ Aside0 (Kd.R k74 74 wc w.heap.size (fun _ => True) (.slice Ao47 x6_1.length co47) x6_1) ∧ Aside0 (Kd.R (Kd.int .i64) 2 wc w.heap.size (fun _ => True) u7 x7_2) ∧ Aside0 (Kd.R Kd.bool 4 wc w.heap.size (fun _ => True) u8 x8_2) ∧ Aside0 (Below w.heap.size w wc))
                      case first =>
                        as_aux_lemma =>
                        have H := HC46.out
                        clear HC46
                        by_cases c49 : x10_2 = true
                        · subst c49
                          have H1 : (if t231 = true then (scrimref18_Share.j3 k3 a1 x6_1 x7_2 x8_2 t233 false x13_3 x14_3 t232) else (scrimref18_Share.j3 k3 a1 x6_1 x7_2 x8_2 false false x13_3 x14_3 t232)) = some (r1, r2) := by rw [if_pos rfl] at H; exact H
                          clear H
                          have H := H1
                          clear H1
                          by_cases c50 : t231 = true
                          · subst c50
                            have H1 : (scrimref18_Share.j3 k3 a1 x6_1 x7_2 x8_2 t233 false x13_3 x14_3 t232) = some (r1, r2) := by rw [if_pos rfl] at H; exact H
                            clear H
                            have H := H1
                            clear H1
                            have H' := Aside0.mk H
                            clear H
                            go_wp2
                            go_meet
                            case rel => exact ⟨_, (t233), (by first | rfl | (simp; done) | (simp [*]; done)), H', ⟨by have := HK1.out; have := HK2.out; have := HK3.out; first | omega | exact Nat.le_refl _⟩, ⟨by (with_reducible repeat (first | apply Kd.R_alloc | apply Kd.R_drewN | apply Kd.R_drew)); exact HO_6.out⟩, ⟨by (with_reducible repeat (first | apply Kd.R_alloc | apply Kd.R_drewN | apply Kd.R_drew)); exact Kd.R_mono HO_7.out (fun _ hk => trivial)⟩, ⟨by (with_reducible repeat (first | apply Kd.R_alloc | apply Kd.R_drewN | apply Kd.R_drew)); exact HO_8.out⟩, ⟨by repeat (first | (with_reducible first | exact HB.out | apply below_alloc | apply pw_below_drewN | apply below_drew1) | exact HB.out)⟩⟩
                          · replace c50 := Bool.eq_false_iff.mpr c50
                            subst c50
                            have H1 : (scrimref18_Share.j3 k3 a1 x6_1 x7_2 x8_2 false false x13_3 x14_3 t232) = some (r1, r2) := by rw [if_neg (show ¬ (false = true) by decide)] at H; exact H
                            clear H
                            have H := H1
                            clear H1
                            have H' := Aside0.mk H
                            clear H
                            go_wp2
                            go_meet
                            case rel => exact ⟨_, (false), (by first | rfl | (simp; done) | (simp [*]; done)), H', ⟨by have := HK1.out; have := HK2.out; have := HK3.out; first | omega | exact Nat.le_refl _⟩, ⟨by (with_reducible repeat (first | apply Kd.R_alloc | apply Kd.R_drewN | apply Kd.R_drew)); exact HO_6.out⟩, ⟨by (with_reducible repeat (first | apply Kd.R_alloc | apply Kd.R_drewN | apply Kd.R_drew)); exact Kd.R_mono HO_7.out (fun _ hk => trivial)⟩, ⟨by (with_reducible repeat (first | apply Kd.R_alloc | apply Kd.R_drewN | apply Kd.R_drew)); exact HO_8.out⟩, ⟨by repeat (first | (with_reducible first | exact HB.out | apply below_alloc | apply pw_below_drewN | apply below_drew1) | exact HB.out)⟩⟩
                        · replace c49 := Bool.eq_false_iff.mpr c49
                          subst c49
                          have H1 : (scrimref18_Share.j3 k3 a1 x6_1 x7_2 x8_2 false false x13_3 x14_3 t232) = some (r1, r2) := by rw [if_neg (show ¬ (false = true) by decide)] at H; exact H
                          clear H
                          have H := H1
                          clear H1
                          have H' := Aside0.mk H
                          clear H
                          go_wp2
                          go_meet
                          case rel => exact ⟨_, (false), (by first | rfl | (simp; done) | (simp [*]; done)), H', ⟨by have := HK1.out; have := HK2.out; have := HK3.out; first | omega | exact Nat.le_refl _⟩, ⟨by (with_reducible repeat (first | apply Kd.R_alloc | apply Kd.R_drewN | apply Kd.R_drew)); exact HO_6.out⟩, ⟨by (with_reducible repeat (first | apply Kd.R_alloc | apply Kd.R_drewN | apply Kd.R_drew)); exact Kd.R_mono HO_7.out (fun _ hk => trivial)⟩, ⟨by (with_reducible repeat (first | apply Kd.R_alloc | apply Kd.R_drewN | apply Kd.R_drew)); exact HO_8.out⟩, ⟨by repeat (first | (with_reducible first | exact HB.out | apply below_alloc | apply pw_below_drewN | apply below_drew1) | exact HB.out)⟩⟩
                      case rest =>
                        as_aux_lemma =>
                        clear HC46
                        try clear c1
                        try clear p1
                        try clear q1
                        try clear hx1
                        try clear c2
                        try clear p2
                        try clear q2
                        try clear hx2
                        try clear c3
                        try clear c3b0
                        try clear c3b1
                        try clear c4
                        try clear c5
                        try clear p6
                        try clear c10
                        try clear c10b0
                        try clear c11
                        try clear c11b0
                        try clear c13
                        try clear c14
                        try clear c15
                        try clear c16
                        try clear p19
                        try clear q19
                        try clear hx19
                        try clear c20
                        try clear p21
                        try clear q21
                        try clear hx21
                        try clear p22
                        try clear q22
                        try clear hx22
                        try clear c23
                        try clear c23b0
                        try clear c24
                        try clear c24b0
                        try clear c25
                        try clear c25b0
                        try clear q26
                        try clear c27
                        try clear c28
                        try clear c28b0
                        try clear c29
                        try clear c37
                        try clear c39
                        try clear c40
                        try clear c41
                        try clear c49
                        try clear c50
                        try clear hx194_0
                        try clear hx194_1
                        try clear hx194_2
                        try clear hx194_3
                        try clear hx211_0
                        try clear hx211_1
                        try clear hx211_2
                        try clear hx211_3
                        try clear hx212_0
                        try clear hx213_0
                        try clear hx214_0
                        try clear hx214_1
                        try clear hx214_2
                        try clear hx214_3
                        try clear hx221_0
                        try clear hx221_1
                        try clear hx221_2
                        try clear hx221_3
                        try clear hx222_0
                        try clear hx222_1
                        try clear hx222_2
                        try clear hx222_3
                        try clear hx223_0
                        try clear hx223_1
                        try clear hx223_2
                        try clear hx223_3
                        try clear p1
                        try clear p19
                        try clear p194
                        try clear p2
                        try clear p211
                        try clear p212
                        try clear p213
                        try clear p214
                        try clear p221
                        try clear p222
                        try clear p223
                        try clear p6
                        try clear q1
                        try clear q19
                        try clear q194
                        try clear q211
                        try clear q212
                        try clear q213
                        try clear q214
                        try clear q221
                        try clear q222
                        try clear q223
                        obtain ⟨kq, x10_45, rfl, HA, HJ45, HO_6, HO_7, HO_8, HB⟩ := hcut
                        cases kq with
                        | zero => exact absurd HA.out (by simp [scrimref18_Share.j3])
                        | succ kj45 =>
                          have H := HA.out
                          clear HA
                          simp only [scrimref18_Share.j3] at H
                          have H' := Aside0.mk H
                          clear H
                          go_wp2
                          go_loopg [10, 21] kj45 (fun kq v10 v21 w' => ∃ (x7_5 : List Int) (x10_5 : Bool) (x21_5 : Int), v10 = .bool x10_5 ∧ v21 = .int .i64 x21_5 ∧ Aside0 (scrimref18_Share.l3 kq a1 x6_1 x7_5 x8_2 x10_5 false x13_3 x14_3 t232 x21_5 = some (r1, r2)) ∧ Aside0 (kq ≤ kj45) ∧ Aside0 (Kd.R k74 74 w' w.heap.size (fun _ => True) (.slice Ao47 x6_1.length co47) x6_1) ∧ Aside0 (Kd.R (Kd.int .i64) 2 w' w.heap.size (fun _ => True) u7 x7_5) ∧ Aside0 (Kd.R Kd.bool 4 w' w.heap.size (fun _ => True) u8 x8_2) ∧ Aside0 (Below w.heap.size w w'))
                          case atStart => exact ⟨(x7_2), (x10_45), (0), (by first | rfl | (simp; done) | (simp [*]; done)), (by first | rfl | (simp; done) | (simp [*]; done)), H', ⟨Nat.le_refl _⟩, ⟨by (with_reducible repeat (first | apply Kd.R_alloc | apply Kd.R_drewN | apply Kd.R_drew)); exact HO_6.out⟩, ⟨by (with_reducible repeat (first | apply Kd.R_alloc | apply Kd.R_drewN | apply Kd.R_drew)); exact HO_7.out⟩, ⟨by (with_reducible repeat (first | apply Kd.R_alloc | apply Kd.R_drewN | apply Kd.R_drew)); exact HO_8.out⟩, ⟨by repeat (first | (with_reducible first | exact HB.out | apply below_alloc | apply pw_below_drewN | apply below_drew1) | exact HB.out)⟩⟩
                          case round =>
                            as_aux_lemma =>
                            clear H'
                            try clear c1
                            try clear p1
                            try clear q1
                            try clear hx1
                            try clear c2
                            try clear p2
                            try clear q2
                            try clear hx2
                            try clear c3
                            try clear c3b0
                            try clear c3b1
                            try clear c4
                            try clear c5
                            try clear p6
                            try clear c10
                            try clear c10b0
                            try clear c11
                            try clear c11b0
                            try clear c13
                            try clear c14
                            try clear c15
                            try clear c16
                            try clear p19
                            try clear q19
                            try clear hx19
                            try clear c20
                            try clear p21
                            try clear q21
                            try clear hx21
                            try clear p22
                            try clear q22
                            try clear hx22
                            try clear c23
                            try clear c23b0
                            try clear c24
                            try clear c24b0
                            try clear c25
                            try clear c25b0
                            try clear q26
                            try clear c27
                            try clear c28
                            try clear c28b0
                            try clear c29
                            try clear c37
                            try clear c39
                            try clear c40
                            try clear c41
                            try clear c49
                            try clear c50
                            try clear hx194_0
                            try clear hx194_1
                            try clear hx194_2
                            try clear hx194_3
                            try clear hx211_0
                            try clear hx211_1
                            try clear hx211_2
                            try clear hx211_3
                            try clear hx212_0
                            try clear hx213_0
                            try clear hx214_0
                            try clear hx214_1
                            try clear hx214_2
                            try clear hx214_3
                            try clear hx221_0
                            try clear hx221_1
                            try clear hx221_2
                            try clear hx221_3
                            try clear hx222_0
                            try clear hx222_1
                            try clear hx222_2
                            try clear hx222_3
                            try clear hx223_0
                            try clear hx223_1
                            try clear hx223_2
                            try clear hx223_3
                            try clear p1
                            try clear p19
                            try clear p194
                            try clear p2
                            try clear p21
                            try clear p211
                            try clear p212
                            try clear p213
                            try clear p214
                            try clear p22
                            try clear p221
                            try clear p222
                            try clear p223
                            try clear p6
                            try clear q1
                            try clear q19
                            try clear q194
                            try clear q2
                            try clear q21
                            try clear q211
                            try clear q212
                            try clear q213
                            try clear q214
                            try clear q22
                            try clear q221
                            try clear q222
                            try clear q223
                            try clear q26
                            obtain ⟨x7_5, x10_5, x21_5, rfl, rfl, HA, HK5, HO_6, HO_7, HO_8, HB⟩ := hrel
                            cases gk with
                            | zero => exact absurd HA.out (by simp [scrimref18_Share.l3])
                            | succ k5 =>
                              have H := HA.out
                              clear HA
                              simp only [scrimref18_Share.l3] at H
                              by_cases c51 : x21_5 < (x6_1.length : Int)
                              · rw [if_pos c51] at H
                                have c51b0 : decide (x21_5 < (x6_1.length : Int)) = true := decide_eq_true c51
                                clear c51
                                by_cases c52 : 0 ≤ x21_5
                                · rw [if_pos c52] at H
                                  have c52b0 : decide (0 ≤ x21_5) = true := decide_eq_true c52
                                  clear c52
                                  by_cases c53 : x21_5 < (x8_2.length : Int)
                                  · rw [if_pos c53] at H
                                    have c53b0 : decide (x21_5 < (x8_2.length : Int)) = true := decide_eq_true c53
                                    clear c53
                                    obtain ⟨bq54, hbq54⟩ : ∃ b_ : Bool, b_ = (rdOf false x8_2 x21_5) := ⟨_, rfl⟩
                                    replace H : (if bq54 = true then (scrimref18_Share.l3 k5 a1 x6_1 x7_5 x8_2 x10_5 false x13_3 x14_3 t232 (wrap64 (x21_5 + 1))) else (if t232 ≥ 0 then ((scrimref18_share.f k5 t232 ((rd_T74 x6_1 x21_5).f2) x13_3).bind fun bt236 => ((scrimref01_Add.f ((rd_T74 x6_1 x21_5).f0) bt236.1).bind fun bt239 => (if x21_5 < (x7_5.length : Int) then ((some (x7_5.set (x21_5 : Int).toNat bt239.1 : List Int)).bind fun y241 => (if x10_5 = true then (if bt236.2 = true then (scrimref18_Share.l3 k5 a1 x6_1 y241 x8_2 bt239.2 false x13_3 x14_3 t232 (wrap64 (x21_5 + 1))) else (scrimref18_Share.l3 k5 a1 x6_1 y241 x8_2 false false x13_3 x14_3 t232 (wrap64 (x21_5 + 1)))) else (scrimref18_Share.l3 k5 a1 x6_1 y241 x8_2 false false x13_3 x14_3 t232 (wrap64 (x21_5 + 1))))) else (none)))) else ((scrimref18_share.f k5 (wrap64 (-t232)) ((rd_T74 x6_1 x21_5).f3) x14_3).bind fun bt243 => ((scrimref01_Sub.f ((rd_T74 x6_1 x21_5).f0) bt243.1).bind fun bt246 => (if x21_5 < (x7_5.length : Int) then ((some (x7_5.set (x21_5 : Int).toNat bt246.1 : List Int)).bind fun y248 => (if x10_5 = true then (if bt243.2 = true then (scrimref18_Share.l3 k5 a1 x6_1 y248 x8_2 bt246.2 false x13_3 x14_3 t232 (wrap64 (x21_5 + 1))) else (scrimref18_Share.l3 k5 a1 x6_1 y248 x8_2 false false x13_3 x14_3 t232 (wrap64 (x21_5 + 1)))) else (scrimref18_Share.l3 k5 a1 x6_1 y248 x8_2 false false x13_3 x14_3 t232 (wrap64 (x21_5 + 1))))) else (none)))))) = some (r1, r2) := by rw [← hbq54] at H; exact H
                                    have Nbq54 := Aside0.mk hbq54
                                    clear hbq54
                                    by_cases c55 : bq54 = true
                                    · subst c55
                                      have H1 : (scrimref18_Share.l3 k5 a1 x6_1 x7_5 x8_2 x10_5 false x13_3 x14_3 t232 (wrap64 (x21_5 + 1))) = some (r1, r2) := by rw [if_pos rfl] at H; exact H
                                      clear H
                                      have H := H1
                                      clear H1
                                      have H' := Aside0.mk H
                                      clear H
                                      obtain ⟨Ao56, co56, eo56⟩ := Kd.R_slice HO_8.out
                                      subst eo56
                                      have p234 : 0 ≤ (x21_5 : Int) := of_decide_eq_true (by first | (with_reducible assumption) | assumption)
                                      have q234 : x21_5 < (x8_2.length : Int) := of_decide_eq_true (by first | (with_reducible assumption) | assumption)
                                      obtain ⟨ad234, e234, hx234_0⟩ := Kd.at_bool (Kd.R_reads' HO_8.out).2.2 x21_5 p234 q234
                                      (try rw [← Nbq54.out] at hx234_0)
                                      cases e234
                                      replace p234 := eq_true p234
                                      replace q234 := eq_true q234
                                      go_wp2
                                      go_roundg k5
                                      case measure => have := HK1.out; have := HK2.out; have := HK3.out; have := HJ45.out; have := HK5.out; omega
                                      case rel => exact ⟨(x7_5), (x10_5), (wrap64 (x21_5 + 1)), (by first | rfl | (simp; done) | (simp [*]; done)), (by first | rfl | (simp; done) | (simp [*]; done)), H', ⟨by have := HK1.out; have := HK2.out; have := HK3.out; have := HJ45.out; have := HK5.out; omega⟩, ⟨by (with_reducible repeat (first | apply Kd.R_alloc | apply Kd.R_drewN | apply Kd.R_drew)); exact HO_6.out⟩, ⟨by (with_reducible repeat (first | apply Kd.R_alloc | apply Kd.R_drewN | apply Kd.R_drew)); exact HO_7.out⟩, ⟨by (with_reducible repeat (first | apply Kd.R_alloc | apply Kd.R_drewN | apply Kd.R_drew)); exact HO_8.out⟩, ⟨by repeat (first | (with_reducible first | exact HB.out | apply below_alloc | apply pw_below_drewN | apply below_drew1) | exact HB.out)⟩⟩
                                    · replace c55 := Bool.eq_false_iff.mpr c55
                                      subst c55
                                      have H1 : (if t232 ≥ 0 then ((scrimref18_share.f k5 t232 ((rd_T74 x6_1 x21_5).f2) x13_3).bind fun bt236 => ((scrimref01_Add.f ((rd_T74 x6_1 x21_5).f0) bt236.1).bind fun bt239 => (if x21_5 < (x7_5.length : Int) then ((some (x7_5.set (x21_5 : Int).toNat bt239.1 : List Int)).bind fun y241 => (if x10_5 = true then (if bt236.2 = true then (scrimref18_Share.l3 k5 a1 x6_1 y241 x8_2 bt239.2 false x13_3 x14_3 t232 (wrap64 (x21_5 + 1))) else (scrimref18_Share.l3 k5 a1 x6_1 y241 x8_2 false false x13_3 x14_3 t232 (wrap64 (x21_5 + 1)))) else (scrimref18_Share.l3 k5 a1 x6_1 y241 x8_2 false false x13_3 x14_3 t232 (wrap64 (x21_5 + 1))))) else (none)))) else ((scrimref18_share.f k5 (wrap64 (-t232)) ((rd_T74 x6_1 x21_5).f3) x14_3).bind fun bt243 => ((scrimref01_Sub.f ((rd_T74 x6_1 x21_5).f0) bt243.1).bind fun bt246 => (if x21_5 < (x7_5.length : Int) then ((some (x7_5.set (x21_5 : Int).toNat bt246.1 : List Int)).bind fun y248 => (if x10_5 = true then (if bt243.2 = true then (scrimref18_Share.l3 k5 a1 x6_1 y248 x8_2 bt246.2 false x13_3 x14_3 t232 (wrap64 (x21_5 + 1))) else (scrimref18_Share.l3 k5 a1 x6_1 y248 x8_2 false false x13_3 x14_3 t232 (wrap64 (x21_5 + 1)))) else (scrimref18_Share.l3 k5 a1 x6_1 y248 x8_2 false false x13_3 x14_3 t232 (wrap64 (x21_5 + 1))))) else (none))))) = some (r1, r2) := by rw [if_neg (show ¬ (false = true) by decide)] at H; exact H
                                      clear H
                                      have H := H1
                                      clear H1
                                      by_cases c57 : t232 ≥ 0
                                      · rw [if_pos c57] at H
                                        have c57b0 : decide (0 ≤ t232) = true := decide_eq_true c57
                                        clear c57
                                        replace H := Option.bind_eq_some_iff.mp H
                                        obtain ⟨⟨t236, t237⟩, A580, H⟩ := H
                                        replace H : ((scrimref01_Add.f ((rd_T74 x6_1 x21_5).f0) t236).bind fun bt239 => (if x21_5 < (x7_5.length : Int) then ((some (x7_5.set (x21_5 : Int).toNat bt239.1 : List Int)).bind fun y241 => (if x10_5 = true then (if t237 = true then (scrimref18_Share.l3 k5 a1 x6_1 y241 x8_2 bt239.2 false x13_3 x14_3 t232 (wrap64 (x21_5 + 1))) else (scrimref18_Share.l3 k5 a1 x6_1 y241 x8_2 false false x13_3 x14_3 t232 (wrap64 (x21_5 + 1)))) else (scrimref18_Share.l3 k5 a1 x6_1 y241 x8_2 false false x13_3 x14_3 t232 (wrap64 (x21_5 + 1))))) else (none))) = some (r1, r2) := H
                                        have A58 := Aside0.mk A580
                                        clear A580
                                        replace H := Option.bind_eq_some_iff.mp H
                                        obtain ⟨⟨t239, t240⟩, A590, H⟩ := H
                                        replace H : (if x21_5 < (x7_5.length : Int) then ((some (x7_5.set (x21_5 : Int).toNat t239 : List Int)).bind fun y241 => (if x10_5 = true then (if t237 = true then (scrimref18_Share.l3 k5 a1 x6_1 y241 x8_2 t240 false x13_3 x14_3 t232 (wrap64 (x21_5 + 1))) else (scrimref18_Share.l3 k5 a1 x6_1 y241 x8_2 false false x13_3 x14_3 t232 (wrap64 (x21_5 + 1)))) else (scrimref18_Share.l3 k5 a1 x6_1 y241 x8_2 false false x13_3 x14_3 t232 (wrap64 (x21_5 + 1))))) else (none)) = some (r1, r2) := H
                                        have A59 := Aside0.mk A590
                                        clear A590
                                        by_cases c60 : x21_5 < (x7_5.length : Int)
                                        · rw [if_pos c60] at H
                                          have c60b0 : decide (x21_5 < (x7_5.length : Int)) = true := decide_eq_true c60
                                          clear c60
                                          obtain ⟨y241, hy241⟩ : ∃ y_ : List Int, y_ = (x7_5.set (x21_5 : Int).toNat t239) := ⟨_, rfl⟩
                                          replace H : (if x10_5 = true then (if t237 = true then (scrimref18_Share.l3 k5 a1 x6_1 y241 x8_2 t240 false x13_3 x14_3 t232 (wrap64 (x21_5 + 1))) else (scrimref18_Share.l3 k5 a1 x6_1 y241 x8_2 false false x13_3 x14_3 t232 (wrap64 (x21_5 + 1)))) else (scrimref18_Share.l3 k5 a1 x6_1 y241 x8_2 false false x13_3 x14_3 t232 (wrap64 (x21_5 + 1)))) = some (r1, r2) := by first | (rw [hy241]; with_reducible exact H) | (have H2_ := (Option.bind_some _ _).symm.trans H; rw [hy241]; with_reducible exact H2_) | (have H2_ := (Option.bind_some _ _).symm.trans H; with_reducible exact H2_) | with_reducible exact H | (rw [hy241]; exact H) | exact H
                                          have Ny241 := Aside0.mk hy241
                                          clear hy241
                                          by_cases c62 : x10_5 = true
                                          · subst c62
                                            have H1 : (if t237 = true then (scrimref18_Share.l3 k5 a1 x6_1 y241 x8_2 t240 false x13_3 x14_3 t232 (wrap64 (x21_5 + 1))) else (scrimref18_Share.l3 k5 a1 x6_1 y241 x8_2 false false x13_3 x14_3 t232 (wrap64 (x21_5 + 1)))) = some (r1, r2) := by rw [if_pos rfl] at H; exact H
                                            clear H
                                            have H := H1
                                            clear H1
                                            by_cases c63 : t237 = true
                                            · subst c63
                                              have H1 : (scrimref18_Share.l3 k5 a1 x6_1 y241 x8_2 t240 false x13_3 x14_3 t232 (wrap64 (x21_5 + 1))) = some (r1, r2) := by rw [if_pos rfl] at H; exact H
                                              clear H
                                              have H := H1
                                              clear H1
                                              have H' := Aside0.mk H
                                              clear H
                                              obtain ⟨Ao64, co64, eo64⟩ := Kd.R_slice HO_8.out
                                              subst eo64
                                              have p234 : 0 ≤ (x21_5 : Int) := of_decide_eq_true (by first | (with_reducible assumption) | assumption)
                                              have q234 : x21_5 < (x8_2.length : Int) := of_decide_eq_true (by first | (with_reducible assumption) | assumption)
                                              obtain ⟨ad234, e234, hx234_0⟩ := Kd.at_bool (Kd.R_reads' HO_8.out).2.2 x21_5 p234 q234
                                              (try rw [← Nbq54.out] at hx234_0)
                                              cases e234
                                              replace p234 := eq_true p234
                                              replace q234 := eq_true q234
                                              have p235 : 0 ≤ (x21_5 : Int) := of_decide_eq_true (by first | (with_reducible assumption) | assumption)
                                              have q235 : x21_5 < (x6_1.length : Int) := of_decide_eq_true (by first | (with_reducible assumption) | assumption)
                                              obtain ⟨ad235, e235, hx235_0, hx235_1, hx235_2, hx235_3⟩ := at_T74 (Kd.R_reads' HO_6.out).2.2 x21_5 p235 q235
                                              cases e235
                                              replace p235 := eq_true p235
                                              replace q235 := eq_true q235
                                              go_wp2_with (first | ((with_reducible refine gate_callee (f := 42) rfl ?_); refine goesL_ (some 139) rfl rfl Try.func42 (by kernel_rfl) rfl #[.int .i64 t232, .int .i64 ((rd_T74 x6_1 x21_5).f2), .int .i64 x13_3] rfl (by (try simp only [List.map_toArray, List.map_cons, List.map_nil]); first | done | rfl | (simp only [List.length_drop, List.length_take]; rfl)) ?_; (with_reducible refine (scrimref18_share.calls k5 t232 ((rd_T74 x6_1 x21_5).f2) x13_3 t236 true _ A58.out).mono ?_); rintro e w65 ⟨rfl, hb⟩; refine ⟨_, rfl, ?_⟩; have n0_ := Aside0.mk (Kd.R_below (by (with_reducible repeat (first | apply Kd.R_alloc | apply Kd.R_drewN | apply Kd.R_drew)); exact HO_6.out) hb); have n1_ := Aside0.mk (Kd.R_below (by (with_reducible repeat (first | apply Kd.R_alloc | apply Kd.R_drewN | apply Kd.R_drew)); exact HO_7.out) hb); have n2_ := Aside0.mk (Kd.R_below (by (with_reducible repeat (first | apply Kd.R_alloc | apply Kd.R_drewN | apply Kd.R_drew)); exact HO_8.out) hb); have n3_ := Aside0.mk (below_step (by repeat (first | (with_reducible first | exact HB.out | apply below_alloc | apply pw_below_drewN | apply below_drew1) | exact HB.out)) hb); clear HO_6; clear HO_7; clear HO_8; clear HB; have HO_6 := n0_; have HO_7 := n1_; have HO_8 := n2_; have HB := n3_; clear n0_ n1_ n2_ n3_; (try clear hb); (try clear hb2); (try clear hk); (try clear hi); have p238 : 0 ≤ (x21_5 : Int) := of_decide_eq_true (by first | (with_reducible assumption) | assumption); have q238 : x21_5 < (x6_1.length : Int) := of_decide_eq_true (by first | (with_reducible assumption) | assumption); obtain ⟨ad238, e238, hx238_0, hx238_1, hx238_2, hx238_3⟩ := at_T74 (Kd.R_reads' HO_6.out).2.2 x21_5 p238 q238; obtain rfl : ad235 = ad238 := (by injection e238); replace p238 := eq_true p238; replace q238 := eq_true q238) | ((with_reducible refine gate_callee (f := 43) rfl ?_); refine goesL_ (some 149) rfl rfl Try.func43 (by kernel_rfl) rfl #[.int .i64 ((rd_T74 x6_1 x21_5).f0), .int .i64 t236] rfl (by (try simp only [List.map_toArray, List.map_cons, List.map_nil]); first | done | rfl | (simp only [List.length_drop, List.length_take]; rfl)) ?_; (with_reducible refine (scrimref01_Add.calls ((rd_T74 x6_1 x21_5).f0) t236 t239 t240 _ A59.out).mono ?_); rintro e w' ⟨rfl, ⟨nd, rfl⟩⟩; refine ⟨_, rfl, ?_⟩; (try (rw [drewN_self w65]; generalize hq_ : World.drewN w65 _ = w65; have n0_ : Aside0 (Kd.R k74 74 w65 w.heap.size (fun _ => True) (.slice (some ad235) x6_1.length co47) x6_1) := ⟨by rw [← hq_]; exact (by (with_reducible repeat (first | apply Kd.R_alloc | apply Kd.R_drewN | apply Kd.R_drew)); exact HO_6.out)⟩; have n1_ : Aside0 (Kd.R (Kd.int .i64) 2 w65 w.heap.size (fun _ => True) u7 x7_5) := ⟨by rw [← hq_]; exact (by (with_reducible repeat (first | apply Kd.R_alloc | apply Kd.R_drewN | apply Kd.R_drew)); exact HO_7.out)⟩; have n2_ : Aside0 (Kd.R Kd.bool 4 w65 w.heap.size (fun _ => True) (.slice (some ad234) x8_2.length co64) x8_2) := ⟨by rw [← hq_]; exact (by (with_reducible repeat (first | apply Kd.R_alloc | apply Kd.R_drewN | apply Kd.R_drew)); exact HO_8.out)⟩; have n3_ : Aside0 (Below w.heap.size w w65) := ⟨by rw [← hq_]; exact (by repeat (first | (with_reducible first | exact HB.out | apply below_alloc | apply pw_below_drewN | apply below_drew1) | exact HB.out))⟩; clear HO_6 HO_7 HO_8 HB hq_; have HO_6 := n0_; have HO_7 := n1_; have HO_8 := n2_; have HB := n3_; clear n0_ n1_ n2_ n3_)); have p61 : 0 ≤ (x21_5 : Int) := of_decide_eq_true (by first | (with_reducible assumption) | assumption); have q61 : (x21_5 : Int) < ((x7_5.length : Int) : Int) := of_decide_eq_true (by first | (with_reducible assumption) | assumption); obtain ⟨go61, co61, eo61, gb61, gl61, cl61, HG61⟩ := Kd.R_form HO_7.out (by omega); (first | cases eo61 | (injection eo61 with ea_ en_ ec_; (first | subst ea_ | (injection ea_ with ea_; subst ea_)); subst ec_; clear en_)); have GB61 := Aside0.mk gb61; have GG61 := Aside0.mk HG61; clear gb61 gl61 HG61; obtain ⟨hx61_0, hf61_0⟩ := Kd.R_celln 0 HO_7.out (x21_5 : Int) p61 q61; replace p61 := eq_true p61; replace q61 := eq_true q61; obtain ⟨hy66_, hz66_⟩ := Kd.R_celln 0 HO_7.out (x21_5 : Int) (of_decide_eq_true (by first | (with_reducible assumption) | assumption)) (of_decide_eq_true (by first | (with_reducible assumption) | assumption)); have HP66 := Kd.R_putg HO_7.out (x21_5 : Int) t239) | ((with_reducible refine gate_store (t := 2) (p := 155) rfl ?_); refine store_event (t := 2) (p := 155) (v := ?vo_w67) (w1 := (w65.setCell ⟨go61, (x21_5 : Int).toNat, none⟩ (.int .i64 t239))) ?hg ?ho ?hn ?hr ?_; (case ho => rfl); (case hg => rfl); (case hn => rfl); (case hr => first | (go_simp; done) | (go_simp; rfl)); intro w67 hw; have hg : w65.grownBy w67 (some go61) := (by rw [hw]; exact HP66.2); have hp_ : Kd.R (Kd.int .i64) 2 w67 w.heap.size (fun _ => True) (.slice (some ⟨go61, 0, none⟩) x7_5.length co61) y241 := (by rw [hw, Ny241.out]; exact HP66.1); clear HP66; have n0_ := Aside0.mk (Kd.R_over' (v := (.slice (some ⟨go61, 0, none⟩) x7_5.length co61)) (by (with_reducible repeat (first | apply Kd.R_alloc | apply Kd.R_drewN | apply Kd.R_drew)); exact HO_6.out) (Kd.R_typed HO_7.out) (by decide) hg); have n1_ := Aside0.mk (hp_); have n2_ := Aside0.mk (Kd.R_over' (v := (.slice (some ⟨go61, 0, none⟩) x7_5.length co61)) (by (with_reducible repeat (first | apply Kd.R_alloc | apply Kd.R_drewN | apply Kd.R_drew)); exact HO_8.out) (Kd.R_typed HO_7.out) (by decide) hg); have n3_ := Aside0.mk ((by rw [hw]; exact below_set (HB.out) GB61.out : Below w.heap.size w w67)); clear HO_6; clear HO_7; clear HO_8; clear HB; have HO_6 := n0_; have HO_7 := n1_; have HO_8 := n2_; have HB := n3_; clear n0_ n1_ n2_ n3_; clear hg hw hp_))
                                              go_roundg k5
                                              case measure => have := HK1.out; have := HK2.out; have := HK3.out; have := HJ45.out; have := HK5.out; omega
                                              case rel => exact ⟨(y241), (t240), (wrap64 (x21_5 + 1)), (by first | rfl | (simp; done) | (simp [*]; done)), (by first | rfl | (simp; done) | (simp [*]; done)), H', ⟨by have := HK1.out; have := HK2.out; have := HK3.out; have := HJ45.out; have := HK5.out; omega⟩, ⟨by (with_reducible repeat (first | apply Kd.R_alloc | apply Kd.R_drewN | apply Kd.R_drew)); exact HO_6.out⟩, ⟨by (with_reducible repeat (first | apply Kd.R_alloc | apply Kd.R_drewN | apply Kd.R_drew)); exact HO_7.out⟩, ⟨by (with_reducible repeat (first | apply Kd.R_alloc | apply Kd.R_drewN | apply Kd.R_drew)); exact HO_8.out⟩, ⟨by repeat (first | (with_reducible first | exact HB.out | apply below_alloc | apply pw_below_drewN | apply below_drew1) | exact HB.out)⟩⟩
                                            · replace c63 := Bool.eq_false_iff.mpr c63
                                              subst c63
                                              have H1 : (scrimref18_Share.l3 k5 a1 x6_1 y241 x8_2 false false x13_3 x14_3 t232 (wrap64 (x21_5 + 1))) = some (r1, r2) := by rw [if_neg (show ¬ (false = true) by decide)] at H; exact H
                                              clear H
                                              have H := H1
                                              clear H1
                                              have H' := Aside0.mk H
                                              clear H
                                              obtain ⟨Ao68, co68, eo68⟩ := Kd.R_slice HO_8.out
                                              subst eo68
                                              have p234 : 0 ≤ (x21_5 : Int) := of_decide_eq_true (by first | (with_reducible assumption) | assumption)
                                              have q234 : x21_5 < (x8_2.length : Int) := of_decide_eq_true (by first | (with_reducible assumption) | assumption)
                                              obtain ⟨ad234, e234, hx234_0⟩ := Kd.at_bool (Kd.R_reads' HO_8.out).2.2 x21_5 p234 q234
                                              (try rw [← Nbq54.out] at hx234_0)
                                              cases e234
                                              replace p234 := eq_true p234
                                              replace q234 := eq_true q234
                                              have p235 : 0 ≤ (x21_5 : Int) := of_decide_eq_true (by first | (with_reducible assumption) | assumption)
                                              have q235 : x21_5 < (x6_1.length : Int) := of_decide_eq_true (by first | (with_reducible assumption) | assumption)
                                              obtain ⟨ad235, e235, hx235_0, hx235_1, hx235_2, hx235_3⟩ := at_T74 (Kd.R_reads' HO_6.out).2.2 x21_5 p235 q235
                                              cases e235
                                              replace p235 := eq_true p235
                                              replace q235 := eq_true q235
                                              go_wp2_with (first | ((with_reducible refine gate_callee (f := 42) rfl ?_); refine goesL_ (some 139) rfl rfl Try.func42 (by kernel_rfl) rfl #[.int .i64 t232, .int .i64 ((rd_T74 x6_1 x21_5).f2), .int .i64 x13_3] rfl (by (try simp only [List.map_toArray, List.map_cons, List.map_nil]); first | done | rfl | (simp only [List.length_drop, List.length_take]; rfl)) ?_; (with_reducible refine (scrimref18_share.calls k5 t232 ((rd_T74 x6_1 x21_5).f2) x13_3 t236 false _ A58.out).mono ?_); rintro e w69 ⟨rfl, hb⟩; refine ⟨_, rfl, ?_⟩; have n0_ := Aside0.mk (Kd.R_below (by (with_reducible repeat (first | apply Kd.R_alloc | apply Kd.R_drewN | apply Kd.R_drew)); exact HO_6.out) hb); have n1_ := Aside0.mk (Kd.R_below (by (with_reducible repeat (first | apply Kd.R_alloc | apply Kd.R_drewN | apply Kd.R_drew)); exact HO_7.out) hb); have n2_ := Aside0.mk (Kd.R_below (by (with_reducible repeat (first | apply Kd.R_alloc | apply Kd.R_drewN | apply Kd.R_drew)); exact HO_8.out) hb); have n3_ := Aside0.mk (below_step (by repeat (first | (with_reducible first | exact HB.out | apply below_alloc | apply pw_below_drewN | apply below_drew1) | exact HB.out)) hb); clear HO_6; clear HO_7; clear HO_8; clear HB; have HO_6 := n0_; have HO_7 := n1_; have HO_8 := n2_; have HB := n3_; clear n0_ n1_ n2_ n3_; (try clear hb); (try clear hb2); (try clear hk); (try clear hi); have p238 : 0 ≤ (x21_5 : Int) := of_decide_eq_true (by first | (with_reducible assumption) | assumption); have q238 : x21_5 < (x6_1.length : Int) := of_decide_eq_true (by first | (with_reducible assumption) | assumption); obtain ⟨ad238, e238, hx238_0, hx238_1, hx238_2, hx238_3⟩ := at_T74 (Kd.R_reads' HO_6.out).2.2 x21_5 p238 q238; obtain rfl : ad235 = ad238 := (by injection e238); replace p238 := eq_true p238; replace q238 := eq_true q238) | ((with_reducible refine gate_callee (f := 43) rfl ?_); refine goesL_ (some 149) rfl rfl Try.func43 (by kernel_rfl) rfl #[.int .i64 ((rd_T74 x6_1 x21_5).f0), .int .i64 t236] rfl (by (try simp only [List.map_toArray, List.map_cons, List.map_nil]); first | done | rfl | (simp only [List.length_drop, List.length_take]; rfl)) ?_; (with_reducible refine (scrimref01_Add.calls ((rd_T74 x6_1 x21_5).f0) t236 t239 t240 _ A59.out).mono ?_); rintro e w' ⟨rfl, ⟨nd, rfl⟩⟩; refine ⟨_, rfl, ?_⟩; (try (rw [drewN_self w69]; generalize hq_ : World.drewN w69 _ = w69; have n0_ : Aside0 (Kd.R k74 74 w69 w.heap.size (fun _ => True) (.slice (some ad235) x6_1.length co47) x6_1) := ⟨by rw [← hq_]; exact (by (with_reducible repeat (first | apply Kd.R_alloc | apply Kd.R_drewN | apply Kd.R_drew)); exact HO_6.out)⟩; have n1_ : Aside0 (Kd.R (Kd.int .i64) 2 w69 w.heap.size (fun _ => True) u7 x7_5) := ⟨by rw [← hq_]; exact (by (with_reducible repeat (first | apply Kd.R_alloc | apply Kd.R_drewN | apply Kd.R_drew)); exact HO_7.out)⟩; have n2_ : Aside0 (Kd.R Kd.bool 4 w69 w.heap.size (fun _ => True) (.slice (some ad234) x8_2.length co68) x8_2) := ⟨by rw [← hq_]; exact (by (with_reducible repeat (first | apply Kd.R_alloc | apply Kd.R_drewN | apply Kd.R_drew)); exact HO_8.out)⟩; have n3_ : Aside0 (Below w.heap.size w w69) := ⟨by rw [← hq_]; exact (by repeat (first | (with_reducible first | exact HB.out | apply below_alloc | apply pw_below_drewN | apply below_drew1) | exact HB.out))⟩; clear HO_6 HO_7 HO_8 HB hq_; have HO_6 := n0_; have HO_7 := n1_; have HO_8 := n2_; have HB := n3_; clear n0_ n1_ n2_ n3_)); have p61 : 0 ≤ (x21_5 : Int) := of_decide_eq_true (by first | (with_reducible assumption) | assumption); have q61 : (x21_5 : Int) < ((x7_5.length : Int) : Int) := of_decide_eq_true (by first | (with_reducible assumption) | assumption); obtain ⟨go61, co61, eo61, gb61, gl61, cl61, HG61⟩ := Kd.R_form HO_7.out (by omega); (first | cases eo61 | (injection eo61 with ea_ en_ ec_; (first | subst ea_ | (injection ea_ with ea_; subst ea_)); subst ec_; clear en_)); have GB61 := Aside0.mk gb61; have GG61 := Aside0.mk HG61; clear gb61 gl61 HG61; obtain ⟨hx61_0, hf61_0⟩ := Kd.R_celln 0 HO_7.out (x21_5 : Int) p61 q61; replace p61 := eq_true p61; replace q61 := eq_true q61; obtain ⟨hy70_, hz70_⟩ := Kd.R_celln 0 HO_7.out (x21_5 : Int) (of_decide_eq_true (by first | (with_reducible assumption) | assumption)) (of_decide_eq_true (by first | (with_reducible assumption) | assumption)); have HP70 := Kd.R_putg HO_7.out (x21_5 : Int) t239) | ((with_reducible refine gate_store (t := 2) (p := 155) rfl ?_); refine store_event (t := 2) (p := 155) (v := ?vo_w71) (w1 := (w69.setCell ⟨go61, (x21_5 : Int).toNat, none⟩ (.int .i64 t239))) ?hg ?ho ?hn ?hr ?_; (case ho => rfl); (case hg => rfl); (case hn => rfl); (case hr => first | (go_simp; done) | (go_simp; rfl)); intro w71 hw; have hg : w69.grownBy w71 (some go61) := (by rw [hw]; exact HP70.2); have hp_ : Kd.R (Kd.int .i64) 2 w71 w.heap.size (fun _ => True) (.slice (some ⟨go61, 0, none⟩) x7_5.length co61) y241 := (by rw [hw, Ny241.out]; exact HP70.1); clear HP70; have n0_ := Aside0.mk (Kd.R_over' (v := (.slice (some ⟨go61, 0, none⟩) x7_5.length co61)) (by (with_reducible repeat (first | apply Kd.R_alloc | apply Kd.R_drewN | apply Kd.R_drew)); exact HO_6.out) (Kd.R_typed HO_7.out) (by decide) hg); have n1_ := Aside0.mk (hp_); have n2_ := Aside0.mk (Kd.R_over' (v := (.slice (some ⟨go61, 0, none⟩) x7_5.length co61)) (by (with_reducible repeat (first | apply Kd.R_alloc | apply Kd.R_drewN | apply Kd.R_drew)); exact HO_8.out) (Kd.R_typed HO_7.out) (by decide) hg); have n3_ := Aside0.mk ((by rw [hw]; exact below_set (HB.out) GB61.out : Below w.heap.size w w71)); clear HO_6; clear HO_7; clear HO_8; clear HB; have HO_6 := n0_; have HO_7 := n1_; have HO_8 := n2_; have HB := n3_; clear n0_ n1_ n2_ n3_; clear hg hw hp_))
                                              go_roundg k5
                                              case measure => have := HK1.out; have := HK2.out; have := HK3.out; have := HJ45.out; have := HK5.out; omega
                                              case rel => exact ⟨(y241), (false), (wrap64 (x21_5 + 1)), (by first | rfl | (simp; done) | (simp [*]; done)), (by first | rfl | (simp; done) | (simp [*]; done)), H', ⟨by have := HK1.out; have := HK2.out; have := HK3.out; have := HJ45.out; have := HK5.out; omega⟩, ⟨by (with_reducible repeat (first | apply Kd.R_alloc | apply Kd.R_drewN | apply Kd.R_drew)); exact HO_6.out⟩, ⟨by (with_reducible repeat (first | apply Kd.R_alloc | apply Kd.R_drewN | apply Kd.R_drew)); exact HO_7.out⟩, ⟨by (with_reducible repeat (first | apply Kd.R_alloc | apply Kd.R_drewN | apply Kd.R_drew)); exact HO_8.out⟩, ⟨by repeat (first | (with_reducible first | exact HB.out | apply below_alloc | apply pw_below_drewN | apply below_drew1) | exact HB.out)⟩⟩
                                          · replace c62 := Bool.eq_false_iff.mpr c62
                                            subst c62
                                            have H1 : (scrimref18_Share.l3 k5 a1 x6_1 y241 x8_2 false false x13_3 x14_3 t232 (wrap64 (x21_5 + 1))) = some (r1, r2) := by rw [if_neg (show ¬ (false = true) by decide)] at H; exact H
                                            clear H
                                            have H := H1
                                            clear H1
                                            have H' := Aside0.mk H
                                            clear H
                                            obtain ⟨Ao72, co72, eo72⟩ := Kd.R_slice HO_8.out
                                            subst eo72
                                            have p234 : 0 ≤ (x21_5 : Int) := of_decide_eq_true (by first | (with_reducible assumption) | assumption)
                                            have q234 : x21_5 < (x8_2.length : Int) := of_decide_eq_true (by first | (with_reducible assumption) | assumption)
                                            obtain ⟨ad234, e234, hx234_0⟩ := Kd.at_bool (Kd.R_reads' HO_8.out).2.2 x21_5 p234 q234
                                            (try rw [← Nbq54.out] at hx234_0)
                                            cases e234
                                            replace p234 := eq_true p234
                                            replace q234 := eq_true q234
                                            have p235 : 0 ≤ (x21_5 : Int) := of_decide_eq_true (by first | (with_reducible assumption) | assumption)
                                            have q235 : x21_5 < (x6_1.length : Int) := of_decide_eq_true (by first | (with_reducible assumption) | assumption)
                                            obtain ⟨ad235, e235, hx235_0, hx235_1, hx235_2, hx235_3⟩ := at_T74 (Kd.R_reads' HO_6.out).2.2 x21_5 p235 q235
                                            cases e235
                                            replace p235 := eq_true p235
                                            replace q235 := eq_true q235
                                            go_wp2_with (first | ((with_reducible refine gate_callee (f := 42) rfl ?_); refine goesL_ (some 139) rfl rfl Try.func42 (by kernel_rfl) rfl #[.int .i64 t232, .int .i64 ((rd_T74 x6_1 x21_5).f2), .int .i64 x13_3] rfl (by (try simp only [List.map_toArray, List.map_cons, List.map_nil]); first | done | rfl | (simp only [List.length_drop, List.length_take]; rfl)) ?_; (with_reducible refine (scrimref18_share.calls k5 t232 ((rd_T74 x6_1 x21_5).f2) x13_3 t236 t237 _ A58.out).mono ?_); rintro e w73 ⟨rfl, hb⟩; refine ⟨_, rfl, ?_⟩; have n0_ := Aside0.mk (Kd.R_below (by (with_reducible repeat (first | apply Kd.R_alloc | apply Kd.R_drewN | apply Kd.R_drew)); exact HO_6.out) hb); have n1_ := Aside0.mk (Kd.R_below (by (with_reducible repeat (first | apply Kd.R_alloc | apply Kd.R_drewN | apply Kd.R_drew)); exact HO_7.out) hb); have n2_ := Aside0.mk (Kd.R_below (by (with_reducible repeat (first | apply Kd.R_alloc | apply Kd.R_drewN | apply Kd.R_drew)); exact HO_8.out) hb); have n3_ := Aside0.mk (below_step (by repeat (first | (with_reducible first | exact HB.out | apply below_alloc | apply pw_below_drewN | apply below_drew1) | exact HB.out)) hb); clear HO_6; clear HO_7; clear HO_8; clear HB; have HO_6 := n0_; have HO_7 := n1_; have HO_8 := n2_; have HB := n3_; clear n0_ n1_ n2_ n3_; (try clear hb); (try clear hb2); (try clear hk); (try clear hi); have p238 : 0 ≤ (x21_5 : Int) := of_decide_eq_true (by first | (with_reducible assumption) | assumption); have q238 : x21_5 < (x6_1.length : Int) := of_decide_eq_true (by first | (with_reducible assumption) | assumption); obtain ⟨ad238, e238, hx238_0, hx238_1, hx238_2, hx238_3⟩ := at_T74 (Kd.R_reads' HO_6.out).2.2 x21_5 p238 q238; obtain rfl : ad235 = ad238 := (by injection e238); replace p238 := eq_true p238; replace q238 := eq_true q238) | ((with_reducible refine gate_callee (f := 43) rfl ?_); refine goesL_ (some 149) rfl rfl Try.func43 (by kernel_rfl) rfl #[.int .i64 ((rd_T74 x6_1 x21_5).f0), .int .i64 t236] rfl (by (try simp only [List.map_toArray, List.map_cons, List.map_nil]); first | done | rfl | (simp only [List.length_drop, List.length_take]; rfl)) ?_; (with_reducible refine (scrimref01_Add.calls ((rd_T74 x6_1 x21_5).f0) t236 t239 t240 _ A59.out).mono ?_); rintro e w' ⟨rfl, ⟨nd, rfl⟩⟩; refine ⟨_, rfl, ?_⟩; (try (rw [drewN_self w73]; generalize hq_ : World.drewN w73 _ = w73; have n0_ : Aside0 (Kd.R k74 74 w73 w.heap.size (fun _ => True) (.slice (some ad235) x6_1.length co47) x6_1) := ⟨by rw [← hq_]; exact (by (with_reducible repeat (first | apply Kd.R_alloc | apply Kd.R_drewN | apply Kd.R_drew)); exact HO_6.out)⟩; have n1_ : Aside0 (Kd.R (Kd.int .i64) 2 w73 w.heap.size (fun _ => True) u7 x7_5) := ⟨by rw [← hq_]; exact (by (with_reducible repeat (first | apply Kd.R_alloc | apply Kd.R_drewN | apply Kd.R_drew)); exact HO_7.out)⟩; have n2_ : Aside0 (Kd.R Kd.bool 4 w73 w.heap.size (fun _ => True) (.slice (some ad234) x8_2.length co72) x8_2) := ⟨by rw [← hq_]; exact (by (with_reducible repeat (first | apply Kd.R_alloc | apply Kd.R_drewN | apply Kd.R_drew)); exact HO_8.out)⟩; have n3_ : Aside0 (Below w.heap.size w w73) := ⟨by rw [← hq_]; exact (by repeat (first | (with_reducible first | exact HB.out | apply below_alloc | apply pw_below_drewN | apply below_drew1) | exact HB.out))⟩; clear HO_6 HO_7 HO_8 HB hq_; have HO_6 := n0_; have HO_7 := n1_; have HO_8 := n2_; have HB := n3_; clear n0_ n1_ n2_ n3_)); have p61 : 0 ≤ (x21_5 : Int) := of_decide_eq_true (by first | (with_reducible assumption) | assumption); have q61 : (x21_5 : Int) < ((x7_5.length : Int) : Int) := of_decide_eq_true (by first | (with_reducible assumption) | assumption); obtain ⟨go61, co61, eo61, gb61, gl61, cl61, HG61⟩ := Kd.R_form HO_7.out (by omega); (first | cases eo61 | (injection eo61 with ea_ en_ ec_; (first | subst ea_ | (injection ea_ with ea_; subst ea_)); subst ec_; clear en_)); have GB61 := Aside0.mk gb61; have GG61 := Aside0.mk HG61; clear gb61 gl61 HG61; obtain ⟨hx61_0, hf61_0⟩ := Kd.R_celln 0 HO_7.out (x21_5 : Int) p61 q61; replace p61 := eq_true p61; replace q61 := eq_true q61; obtain ⟨hy74_, hz74_⟩ := Kd.R_celln 0 HO_7.out (x21_5 : Int) (of_decide_eq_true (by first | (with_reducible assumption) | assumption)) (of_decide_eq_true (by first | (with_reducible assumption) | assumption)); have HP74 := Kd.R_putg HO_7.out (x21_5 : Int) t239) | ((with_reducible refine gate_store (t := 2) (p := 155) rfl ?_); refine store_event (t := 2) (p := 155) (v := ?vo_w75) (w1 := (w73.setCell ⟨go61, (x21_5 : Int).toNat, none⟩ (.int .i64 t239))) ?hg ?ho ?hn ?hr ?_; (case ho => rfl); (case hg => rfl); (case hn => rfl); (case hr => first | (go_simp; done) | (go_simp; rfl)); intro w75 hw; have hg : w73.grownBy w75 (some go61) := (by rw [hw]; exact HP74.2); have hp_ : Kd.R (Kd.int .i64) 2 w75 w.heap.size (fun _ => True) (.slice (some ⟨go61, 0, none⟩) x7_5.length co61) y241 := (by rw [hw, Ny241.out]; exact HP74.1); clear HP74; have n0_ := Aside0.mk (Kd.R_over' (v := (.slice (some ⟨go61, 0, none⟩) x7_5.length co61)) (by (with_reducible repeat (first | apply Kd.R_alloc | apply Kd.R_drewN | apply Kd.R_drew)); exact HO_6.out) (Kd.R_typed HO_7.out) (by decide) hg); have n1_ := Aside0.mk (hp_); have n2_ := Aside0.mk (Kd.R_over' (v := (.slice (some ⟨go61, 0, none⟩) x7_5.length co61)) (by (with_reducible repeat (first | apply Kd.R_alloc | apply Kd.R_drewN | apply Kd.R_drew)); exact HO_8.out) (Kd.R_typed HO_7.out) (by decide) hg); have n3_ := Aside0.mk ((by rw [hw]; exact below_set (HB.out) GB61.out : Below w.heap.size w w75)); clear HO_6; clear HO_7; clear HO_8; clear HB; have HO_6 := n0_; have HO_7 := n1_; have HO_8 := n2_; have HB := n3_; clear n0_ n1_ n2_ n3_; clear hg hw hp_))
                                            go_roundg k5
                                            case measure => have := HK1.out; have := HK2.out; have := HK3.out; have := HJ45.out; have := HK5.out; omega
                                            case rel => exact ⟨(y241), (false), (wrap64 (x21_5 + 1)), (by first | rfl | (simp; done) | (simp [*]; done)), (by first | rfl | (simp; done) | (simp [*]; done)), H', ⟨by have := HK1.out; have := HK2.out; have := HK3.out; have := HJ45.out; have := HK5.out; omega⟩, ⟨by (with_reducible repeat (first | apply Kd.R_alloc | apply Kd.R_drewN | apply Kd.R_drew)); exact HO_6.out⟩, ⟨by (with_reducible repeat (first | apply Kd.R_alloc | apply Kd.R_drewN | apply Kd.R_drew)); exact HO_7.out⟩, ⟨by (with_reducible repeat (first | apply Kd.R_alloc | apply Kd.R_drewN | apply Kd.R_drew)); exact HO_8.out⟩, ⟨by repeat (first | (with_reducible first | exact HB.out | apply below_alloc | apply pw_below_drewN | apply below_drew1) | exact HB.out)⟩⟩
                                        · rw [if_neg c60] at H
                                          exact absurd H (by simp)
                                      · rw [if_neg c57] at H
                                        have c57b0 : decide (0 ≤ t232) = false := decide_eq_false c57
                                        clear c57
                                        replace H := Option.bind_eq_some_iff.mp H
                                        obtain ⟨⟨t243, t244⟩, A760, H⟩ := H
                                        replace H : ((scrimref01_Sub.f ((rd_T74 x6_1 x21_5).f0) t243).bind fun bt246 => (if x21_5 < (x7_5.length : Int) then ((some (x7_5.set (x21_5 : Int).toNat bt246.1 : List Int)).bind fun y248 => (if x10_5 = true then (if t244 = true then (scrimref18_Share.l3 k5 a1 x6_1 y248 x8_2 bt246.2 false x13_3 x14_3 t232 (wrap64 (x21_5 + 1))) else (scrimref18_Share.l3 k5 a1 x6_1 y248 x8_2 false false x13_3 x14_3 t232 (wrap64 (x21_5 + 1)))) else (scrimref18_Share.l3 k5 a1 x6_1 y248 x8_2 false false x13_3 x14_3 t232 (wrap64 (x21_5 + 1))))) else (none))) = some (r1, r2) := H
                                        have A76 := Aside0.mk A760
                                        clear A760
                                        replace H := Option.bind_eq_some_iff.mp H
                                        obtain ⟨⟨t246, t247⟩, A770, H⟩ := H
                                        replace H : (if x21_5 < (x7_5.length : Int) then ((some (x7_5.set (x21_5 : Int).toNat t246 : List Int)).bind fun y248 => (if x10_5 = true then (if t244 = true then (scrimref18_Share.l3 k5 a1 x6_1 y248 x8_2 t247 false x13_3 x14_3 t232 (wrap64 (x21_5 + 1))) else (scrimref18_Share.l3 k5 a1 x6_1 y248 x8_2 false false x13_3 x14_3 t232 (wrap64 (x21_5 + 1)))) else (scrimref18_Share.l3 k5 a1 x6_1 y248 x8_2 false false x13_3 x14_3 t232 (wrap64 (x21_5 + 1))))) else (none)) = some (r1, r2) := H
                                        have A77 := Aside0.mk A770
                                        clear A770
                                        by_cases c78 : x21_5 < (x7_5.length : Int)
                                        · rw [if_pos c78] at H
                                          have c78b0 : decide (x21_5 < (x7_5.length : Int)) = true := decide_eq_true c78
                                          clear c78
                                          obtain ⟨y248, hy248⟩ : ∃ y_ : List Int, y_ = (x7_5.set (x21_5 : Int).toNat t246) := ⟨_, rfl⟩
                                          replace H : (if x10_5 = true then (if t244 = true then (scrimref18_Share.l3 k5 a1 x6_1 y248 x8_2 t247 false x13_3 x14_3 t232 (wrap64 (x21_5 + 1))) else (scrimref18_Share.l3 k5 a1 x6_1 y248 x8_2 false false x13_3 x14_3 t232 (wrap64 (x21_5 + 1)))) else (scrimref18_Share.l3 k5 a1 x6_1 y248 x8_2 false false x13_3 x14_3 t232 (wrap64 (x21_5 + 1)))) = some (r1, r2) := by first | (rw [hy248]; with_reducible exact H) | (have H2_ := (Option.bind_some _ _).symm.trans H; rw [hy248]; with_reducible exact H2_) | (have H2_ := (Option.bind_some _ _).symm.trans H; with_reducible exact H2_) | with_reducible exact H | (rw [hy248]; exact H) | exact H
                                          have Ny248 := Aside0.mk hy248
                                          clear hy248
                                          by_cases c80 : x10_5 = true
                                          · subst c80
                                            have H1 : (if t244 = true then (scrimref18_Share.l3 k5 a1 x6_1 y248 x8_2 t247 false x13_3 x14_3 t232 (wrap64 (x21_5 + 1))) else (scrimref18_Share.l3 k5 a1 x6_1 y248 x8_2 false false x13_3 x14_3 t232 (wrap64 (x21_5 + 1)))) = some (r1, r2) := by rw [if_pos rfl] at H; exact H
                                            clear H
                                            have H := H1
                                            clear H1
                                            by_cases c81 : t244 = true
                                            · subst c81
                                              have H1 : (scrimref18_Share.l3 k5 a1 x6_1 y248 x8_2 t247 false x13_3 x14_3 t232 (wrap64 (x21_5 + 1))) = some (r1, r2) := by rw [if_pos rfl] at H; exact H
                                              clear H
                                              have H := H1
                                              clear H1
                                              have H' := Aside0.mk H
                                              clear H
                                              obtain ⟨Ao82, co82, eo82⟩ := Kd.R_slice HO_8.out
                                              subst eo82
                                              have p234 : 0 ≤ (x21_5 : Int) := of_decide_eq_true (by first | (with_reducible assumption) | assumption)
                                              have q234 : x21_5 < (x8_2.length : Int) := of_decide_eq_true (by first | (with_reducible assumption) | assumption)
                                              obtain ⟨ad234, e234, hx234_0⟩ := Kd.at_bool (Kd.R_reads' HO_8.out).2.2 x21_5 p234 q234
                                              (try rw [← Nbq54.out] at hx234_0)
                                              cases e234
                                              replace p234 := eq_true p234
                                              replace q234 := eq_true q234
                                              have p242 : 0 ≤ (x21_5 : Int) := of_decide_eq_true (by first | (with_reducible assumption) | assumption)
                                              have q242 : x21_5 < (x6_1.length : Int) := of_decide_eq_true (by first | (with_reducible assumption) | assumption)
                                              obtain ⟨ad242, e242, hx242_0, hx242_1, hx242_2, hx242_3⟩ := at_T74 (Kd.R_reads' HO_6.out).2.2 x21_5 p242 q242
                                              cases e242
                                              replace p242 := eq_true p242
                                              replace q242 := eq_true q242
                                              go_wp2_with (first | ((with_reducible refine gate_callee (f := 42) rfl ?_); refine goesL_ (some 172) rfl rfl Try.func42 (by kernel_rfl) rfl #[.int .i64 (wrap64 (-t232)), .int .i64 ((rd_T74 x6_1 x21_5).f3), .int .i64 x14_3] rfl (by (try simp only [List.map_toArray, List.map_cons, List.map_nil]); first | done | rfl | (simp only [List.length_drop, List.length_take]; rfl)) ?_; (with_reducible refine (scrimref18_share.calls k5 (wrap64 (-t232)) ((rd_T74 x6_1 x21_5).f3) x14_3 t243 true _ A76.out).mono ?_); rintro e w83 ⟨rfl, hb⟩; refine ⟨_, rfl, ?_⟩; have n0_ := Aside0.mk (Kd.R_below (by (with_reducible repeat (first | apply Kd.R_alloc | apply Kd.R_drewN | apply Kd.R_drew)); exact HO_6.out) hb); have n1_ := Aside0.mk (Kd.R_below (by (with_reducible repeat (first | apply Kd.R_alloc | apply Kd.R_drewN | apply Kd.R_drew)); exact HO_7.out) hb); have n2_ := Aside0.mk (Kd.R_below (by (with_reducible repeat (first | apply Kd.R_alloc | apply Kd.R_drewN | apply Kd.R_drew)); exact HO_8.out) hb); have n3_ := Aside0.mk (below_step (by repeat (first | (with_reducible first | exact HB.out | apply below_alloc | apply pw_below_drewN | apply below_drew1) | exact HB.out)) hb); clear HO_6; clear HO_7; clear HO_8; clear HB; have HO_6 := n0_; have HO_7 := n1_; have HO_8 := n2_; have HB := n3_; clear n0_ n1_ n2_ n3_; (try clear hb); (try clear hb2); (try clear hk); (try clear hi); have p245 : 0 ≤ (x21_5 : Int) := of_decide_eq_true (by first | (with_reducible assumption) | assumption); have q245 : x21_5 < (x6_1.length : Int) := of_decide_eq_true (by first | (with_reducible assumption) | assumption); obtain ⟨ad245, e245, hx245_0, hx245_1, hx245_2, hx245_3⟩ := at_T74 (Kd.R_reads' HO_6.out).2.2 x21_5 p245 q245; obtain rfl : ad242 = ad245 := (by injection e245); replace p245 := eq_true p245; replace q245 := eq_true q245) | ((with_reducible refine gate_callee (f := 41) rfl ?_); refine goesL_ (some 182) rfl rfl Try.func41 (by kernel_rfl) rfl #[.int .i64 ((rd_T74 x6_1 x21_5).f0), .int .i64 t243] rfl (by (try simp only [List.map_toArray, List.map_cons, List.map_nil]); first | done | rfl | (simp only [List.length_drop, List.length_take]; rfl)) ?_; (with_reducible refine (scrimref01_Sub.calls ((rd_T74 x6_1 x21_5).f0) t243 t246 t247 _ A77.out).mono ?_); rintro e w' ⟨rfl, ⟨nd, rfl⟩⟩; refine ⟨_, rfl, ?_⟩; (try (rw [drewN_self w83]; generalize hq_ : World.drewN w83 _ = w83; have n0_ : Aside0 (Kd.R k74 74 w83 w.heap.size (fun _ => True) (.slice (some ad242) x6_1.length co47) x6_1) := ⟨by rw [← hq_]; exact (by (with_reducible repeat (first | apply Kd.R_alloc | apply Kd.R_drewN | apply Kd.R_drew)); exact HO_6.out)⟩; have n1_ : Aside0 (Kd.R (Kd.int .i64) 2 w83 w.heap.size (fun _ => True) u7 x7_5) := ⟨by rw [← hq_]; exact (by (with_reducible repeat (first | apply Kd.R_alloc | apply Kd.R_drewN | apply Kd.R_drew)); exact HO_7.out)⟩; have n2_ : Aside0 (Kd.R Kd.bool 4 w83 w.heap.size (fun _ => True) (.slice (some ad234) x8_2.length co82) x8_2) := ⟨by rw [← hq_]; exact (by (with_reducible repeat (first | apply Kd.R_alloc | apply Kd.R_drewN | apply Kd.R_drew)); exact HO_8.out)⟩; have n3_ : Aside0 (Below w.heap.size w w83) := ⟨by rw [← hq_]; exact (by repeat (first | (with_reducible first | exact HB.out | apply below_alloc | apply pw_below_drewN | apply below_drew1) | exact HB.out))⟩; clear HO_6 HO_7 HO_8 HB hq_; have HO_6 := n0_; have HO_7 := n1_; have HO_8 := n2_; have HB := n3_; clear n0_ n1_ n2_ n3_)); have p79 : 0 ≤ (x21_5 : Int) := of_decide_eq_true (by first | (with_reducible assumption) | assumption); have q79 : (x21_5 : Int) < ((x7_5.length : Int) : Int) := of_decide_eq_true (by first | (with_reducible assumption) | assumption); obtain ⟨go79, co79, eo79, gb79, gl79, cl79, HG79⟩ := Kd.R_form HO_7.out (by omega); (first | cases eo79 | (injection eo79 with ea_ en_ ec_; (first | subst ea_ | (injection ea_ with ea_; subst ea_)); subst ec_; clear en_)); have GB79 := Aside0.mk gb79; have GG79 := Aside0.mk HG79; clear gb79 gl79 HG79; obtain ⟨hx79_0, hf79_0⟩ := Kd.R_celln 0 HO_7.out (x21_5 : Int) p79 q79; replace p79 := eq_true p79; replace q79 := eq_true q79; obtain ⟨hy84_, hz84_⟩ := Kd.R_celln 0 HO_7.out (x21_5 : Int) (of_decide_eq_true (by first | (with_reducible assumption) | assumption)) (of_decide_eq_true (by first | (with_reducible assumption) | assumption)); have HP84 := Kd.R_putg HO_7.out (x21_5 : Int) t246) | ((with_reducible refine gate_store (t := 2) (p := 188) rfl ?_); refine store_event (t := 2) (p := 188) (v := ?vo_w85) (w1 := (w83.setCell ⟨go79, (x21_5 : Int).toNat, none⟩ (.int .i64 t246))) ?hg ?ho ?hn ?hr ?_; (case ho => rfl); (case hg => rfl); (case hn => rfl); (case hr => first | (go_simp; done) | (go_simp; rfl)); intro w85 hw; have hg : w83.grownBy w85 (some go79) := (by rw [hw]; exact HP84.2); have hp_ : Kd.R (Kd.int .i64) 2 w85 w.heap.size (fun _ => True) (.slice (some ⟨go79, 0, none⟩) x7_5.length co79) y248 := (by rw [hw, Ny248.out]; exact HP84.1); clear HP84; have n0_ := Aside0.mk (Kd.R_over' (v := (.slice (some ⟨go79, 0, none⟩) x7_5.length co79)) (by (with_reducible repeat (first | apply Kd.R_alloc | apply Kd.R_drewN | apply Kd.R_drew)); exact HO_6.out) (Kd.R_typed HO_7.out) (by decide) hg); have n1_ := Aside0.mk (hp_); have n2_ := Aside0.mk (Kd.R_over' (v := (.slice (some ⟨go79, 0, none⟩) x7_5.length co79)) (by (with_reducible repeat (first | apply Kd.R_alloc | apply Kd.R_drewN | apply Kd.R_drew)); exact HO_8.out) (Kd.R_typed HO_7.out) (by decide) hg); have n3_ := Aside0.mk ((by rw [hw]; exact below_set (HB.out) GB79.out : Below w.heap.size w w85)); clear HO_6; clear HO_7; clear HO_8; clear HB; have HO_6 := n0_; have HO_7 := n1_; have HO_8 := n2_; have HB := n3_; clear n0_ n1_ n2_ n3_; clear hg hw hp_))
                                              go_roundg k5
                                              case measure => have := HK1.out; have := HK2.out; have := HK3.out; have := HJ45.out; have := HK5.out; omega
                                              case rel => exact ⟨(y248), (t247), (wrap64 (x21_5 + 1)), (by first | rfl | (simp; done) | (simp [*]; done)), (by first | rfl | (simp; done) | (simp [*]; done)), H', ⟨by have := HK1.out; have := HK2.out; have := HK3.out; have := HJ45.out; have := HK5.out; omega⟩, ⟨by (with_reducible repeat (first | apply Kd.R_alloc | apply Kd.R_drewN | apply Kd.R_drew)); exact HO_6.out⟩, ⟨by (with_reducible repeat (first | apply Kd.R_alloc | apply Kd.R_drewN | apply Kd.R_drew)); exact HO_7.out⟩, ⟨by (with_reducible repeat (first | apply Kd.R_alloc | apply Kd.R_drewN | apply Kd.R_drew)); exact HO_8.out⟩, ⟨by repeat (first | (with_reducible first | exact HB.out | apply below_alloc | apply pw_below_drewN | apply below_drew1) | exact HB.out)⟩⟩
                                            · replace c81 := Bool.eq_false_iff.mpr c81
                                              subst c81
                                              have H1 : (scrimref18_Share.l3 k5 a1 x6_1 y248 x8_2 false false x13_3 x14_3 t232 (wrap64 (x21_5 + 1))) = some (r1, r2) := by rw [if_neg (show ¬ (false = true) by decide)] at H; exact H
                                              clear H
                                              have H := H1
                                              clear H1
                                              have H' := Aside0.mk H
                                              clear H
                                              obtain ⟨Ao86, co86, eo86⟩ := Kd.R_slice HO_8.out
                                              subst eo86
                                              have p234 : 0 ≤ (x21_5 : Int) := of_decide_eq_true (by first | (with_reducible assumption) | assumption)
                                              have q234 : x21_5 < (x8_2.length : Int) := of_decide_eq_true (by first | (with_reducible assumption) | assumption)
                                              obtain ⟨ad234, e234, hx234_0⟩ := Kd.at_bool (Kd.R_reads' HO_8.out).2.2 x21_5 p234 q234
                                              (try rw [← Nbq54.out] at hx234_0)
                                              cases e234
                                              replace p234 := eq_true p234
                                              replace q234 := eq_true q234
                                              have p242 : 0 ≤ (x21_5 : Int) := of_decide_eq_true (by first | (with_reducible assumption) | assumption)
                                              have q242 : x21_5 < (x6_1.length : Int) := of_decide_eq_true (by first | (with_reducible assumption) | assumption)
                                              obtain ⟨ad242, e242, hx242_0, hx242_1, hx242_2, hx242_3⟩ := at_T74 (Kd.R_reads' HO_6.out).2.2 x21_5 p242 q242
                                              cases e242
                                              replace p242 := eq_true p242
                                              replace q242 := eq_true q242
                                              go_wp2_with (first | ((with_reducible refine gate_callee (f := 42) rfl ?_); refine goesL_ (some 172) rfl rfl Try.func42 (by kernel_rfl) rfl #[.int .i64 (wrap64 (-t232)), .int .i64 ((rd_T74 x6_1 x21_5).f3), .int .i64 x14_3] rfl (by (try simp only [List.map_toArray, List.map_cons, List.map_nil]); first | done | rfl | (simp only [List.length_drop, List.length_take]; rfl)) ?_; (with_reducible refine (scrimref18_share.calls k5 (wrap64 (-t232)) ((rd_T74 x6_1 x21_5).f3) x14_3 t243 false _ A76.out).mono ?_); rintro e w87 ⟨rfl, hb⟩; refine ⟨_, rfl, ?_⟩; have n0_ := Aside0.mk (Kd.R_below (by (with_reducible repeat (first | apply Kd.R_alloc | apply Kd.R_drewN | apply Kd.R_drew)); exact HO_6.out) hb); have n1_ := Aside0.mk (Kd.R_below (by (with_reducible repeat (first | apply Kd.R_alloc | apply Kd.R_drewN | apply Kd.R_drew)); exact HO_7.out) hb); have n2_ := Aside0.mk (Kd.R_below (by (with_reducible repeat (first | apply Kd.R_alloc | apply Kd.R_drewN | apply Kd.R_drew)); exact HO_8.out) hb); have n3_ := Aside0.mk (below_step (by repeat (first | (with_reducible first | exact HB.out | apply below_alloc | apply pw_below_drewN | apply below_drew1) | exact HB.out)) hb); clear HO_6; clear HO_7; clear HO_8; clear HB; have HO_6 := n0_; have HO_7 := n1_; have HO_8 := n2_; have HB := n3_; clear n0_ n1_ n2_ n3_; (try clear hb); (try clear hb2); (try clear hk); (try clear hi); have p245 : 0 ≤ (x21_5 : Int) := of_decide_eq_true (by first | (with_reducible assumption) | assumption); have q245 : x21_5 < (x6_1.length : Int) := of_decide_eq_true (by first | (with_reducible assumption) | assumption); obtain ⟨ad245, e245, hx245_0, hx245_1, hx245_2, hx245_3⟩ := at_T74 (Kd.R_reads' HO_6.out).2.2 x21_5 p245 q245; obtain rfl : ad242 = ad245 := (by injection e245); replace p245 := eq_true p245; replace q245 := eq_true q245) | ((with_reducible refine gate_callee (f := 41) rfl ?_); refine goesL_ (some 182) rfl rfl Try.func41 (by kernel_rfl) rfl #[.int .i64 ((rd_T74 x6_1 x21_5).f0), .int .i64 t243] rfl (by (try simp only [List.map_toArray, List.map_cons, List.map_nil]); first | done | rfl | (simp only [List.length_drop, List.length_take]; rfl)) ?_; (with_reducible refine (scrimref01_Sub.calls ((rd_T74 x6_1 x21_5).f0) t243 t246 t247 _ A77.out).mono ?_); rintro e w' ⟨rfl, ⟨nd, rfl⟩⟩; refine ⟨_, rfl, ?_⟩; (try (rw [drewN_self w87]; generalize hq_ : World.drewN w87 _ = w87; have n0_ : Aside0 (Kd.R k74 74 w87 w.heap.size (fun _ => True) (.slice (some ad242) x6_1.length co47) x6_1) := ⟨by rw [← hq_]; exact (by (with_reducible repeat (first | apply Kd.R_alloc | apply Kd.R_drewN | apply Kd.R_drew)); exact HO_6.out)⟩; have n1_ : Aside0 (Kd.R (Kd.int .i64) 2 w87 w.heap.size (fun _ => True) u7 x7_5) := ⟨by rw [← hq_]; exact (by (with_reducible repeat (first | apply Kd.R_alloc | apply Kd.R_drewN | apply Kd.R_drew)); exact HO_7.out)⟩; have n2_ : Aside0 (Kd.R Kd.bool 4 w87 w.heap.size (fun _ => True) (.slice (some ad234) x8_2.length co86) x8_2) := ⟨by rw [← hq_]; exact (by (with_reducible repeat (first | apply Kd.R_alloc | apply Kd.R_drewN | apply Kd.R_drew)); exact HO_8.out)⟩; have n3_ : Aside0 (Below w.heap.size w w87) := ⟨by rw [← hq_]; exact (by repeat (first | (with_reducible first | exact HB.out | apply below_alloc | apply pw_below_drewN | apply below_drew1) | exact HB.out))⟩; clear HO_6 HO_7 HO_8 HB hq_; have HO_6 := n0_; have HO_7 := n1_; have HO_8 := n2_; have HB := n3_; clear n0_ n1_ n2_ n3_)); have p79 : 0 ≤ (x21_5 : Int) := of_decide_eq_true (by first | (with_reducible assumption) | assumption); have q79 : (x21_5 : Int) < ((x7_5.length : Int) : Int) := of_decide_eq_true (by first | (with_reducible assumption) | assumption); obtain ⟨go79, co79, eo79, gb79, gl79, cl79, HG79⟩ := Kd.R_form HO_7.out (by omega); (first | cases eo79 | (injection eo79 with ea_ en_ ec_; (first | subst ea_ | (injection ea_ with ea_; subst ea_)); subst ec_; clear en_)); have GB79 := Aside0.mk gb79; have GG79 := Aside0.mk HG79; clear gb79 gl79 HG79; obtain ⟨hx79_0, hf79_0⟩ := Kd.R_celln 0 HO_7.out (x21_5 : Int) p79 q79; replace p79 := eq_true p79; replace q79 := eq_true q79; obtain ⟨hy88_, hz88_⟩ := Kd.R_celln 0 HO_7.out (x21_5 : Int) (of_decide_eq_true (by first | (with_reducible assumption) | assumption)) (of_decide_eq_true (by first | (with_reducible assumption) | assumption)); have HP88 := Kd.R_putg HO_7.out (x21_5 : Int) t246) | ((with_reducible refine gate_store (t := 2) (p := 188) rfl ?_); refine store_event (t := 2) (p := 188) (v := ?vo_w89) (w1 := (w87.setCell ⟨go79, (x21_5 : Int).toNat, none⟩ (.int .i64 t246))) ?hg ?ho ?hn ?hr ?_; (case ho => rfl); (case hg => rfl); (case hn => rfl); (case hr => first | (go_simp; done) | (go_simp; rfl)); intro w89 hw; have hg : w87.grownBy w89 (some go79) := (by rw [hw]; exact HP88.2); have hp_ : Kd.R (Kd.int .i64) 2 w89 w.heap.size (fun _ => True) (.slice (some ⟨go79, 0, none⟩) x7_5.length co79) y248 := (by rw [hw, Ny248.out]; exact HP88.1); clear HP88; have n0_ := Aside0.mk (Kd.R_over' (v := (.slice (some ⟨go79, 0, none⟩) x7_5.length co79)) (by (with_reducible repeat (first | apply Kd.R_alloc | apply Kd.R_drewN | apply Kd.R_drew)); exact HO_6.out) (Kd.R_typed HO_7.out) (by decide) hg); have n1_ := Aside0.mk (hp_); have n2_ := Aside0.mk (Kd.R_over' (v := (.slice (some ⟨go79, 0, none⟩) x7_5.length co79)) (by (with_reducible repeat (first | apply Kd.R_alloc | apply Kd.R_drewN | apply Kd.R_drew)); exact HO_8.out) (Kd.R_typed HO_7.out) (by decide) hg); have n3_ := Aside0.mk ((by rw [hw]; exact below_set (HB.out) GB79.out : Below w.heap.size w w89)); clear HO_6; clear HO_7; clear HO_8; clear HB; have HO_6 := n0_; have HO_7 := n1_; have HO_8 := n2_; have HB := n3_; clear n0_ n1_ n2_ n3_; clear hg hw hp_))
                                              go_roundg k5
                                              case measure => have := HK1.out; have := HK2.out; have := HK3.out; have := HJ45.out; have := HK5.out; omega
                                              case rel => exact ⟨(y248), (false), (wrap64 (x21_5 + 1)), (by first | rfl | (simp; done) | (simp [*]; done)), (by first | rfl | (simp; done) | (simp [*]; done)), H', ⟨by have := HK1.out; have := HK2.out; have := HK3.out; have := HJ45.out; have := HK5.out; omega⟩, ⟨by (with_reducible repeat (first | apply Kd.R_alloc | apply Kd.R_drewN | apply Kd.R_drew)); exact HO_6.out⟩, ⟨by (with_reducible repeat (first | apply Kd.R_alloc | apply Kd.R_drewN | apply Kd.R_drew)); exact HO_7.out⟩, ⟨by (with_reducible repeat (first | apply Kd.R_alloc | apply Kd.R_drewN | apply Kd.R_drew)); exact HO_8.out⟩, ⟨by repeat (first | (with_reducible first | exact HB.out | apply below_alloc | apply pw_below_drewN | apply below_drew1) | exact HB.out)⟩⟩
                                          · replace c80 := Bool.eq_false_iff.mpr c80
                                            subst c80
                                            have H1 : (scrimref18_Share.l3 k5 a1 x6_1 y248 x8_2 false false x13_3 x14_3 t232 (wrap64 (x21_5 + 1))) = some (r1, r2) := by rw [if_neg (show ¬ (false = true) by decide)] at H; exact H
                                            clear H
                                            have H := H1
                                            clear H1
                                            have H' := Aside0.mk H
                                            clear H
                                            obtain ⟨Ao90, co90, eo90⟩ := Kd.R_slice HO_8.out
                                            subst eo90
                                            have p234 : 0 ≤ (x21_5 : Int) := of_decide_eq_true (by first | (with_reducible assumption) | assumption)
                                            have q234 : x21_5 < (x8_2.length : Int) := of_decide_eq_true (by first | (with_reducible assumption) | assumption)
                                            obtain ⟨ad234, e234, hx234_0⟩ := Kd.at_bool (Kd.R_reads' HO_8.out).2.2 x21_5 p234 q234
                                            (try rw [← Nbq54.out] at hx234_0)
                                            cases e234
                                            replace p234 := eq_true p234
                                            replace q234 := eq_true q234
                                            have p242 : 0 ≤ (x21_5 : Int) := of_decide_eq_true (by first | (with_reducible assumption) | assumption)
                                            have q242 : x21_5 < (x6_1.length : Int) := of_decide_eq_true (by first | (with_reducible assumption) | assumption)
                                            obtain ⟨ad242, e242, hx242_0, hx242_1, hx242_2, hx242_3⟩ := at_T74 (Kd.R_reads' HO_6.out).2.2 x21_5 p242 q242
                                            cases e242
                                            replace p242 := eq_true p242
                                            replace q242 := eq_true q242
                                            go_wp2_with (first | ((with_reducible refine gate_callee (f := 42) rfl ?_); refine goesL_ (some 172) rfl rfl Try.func42 (by kernel_rfl) rfl #[.int .i64 (wrap64 (-t232)), .int .i64 ((rd_T74 x6_1 x21_5).f3), .int .i64 x14_3] rfl (by (try simp only [List.map_toArray, List.map_cons, List.map_nil]); first | done | rfl | (simp only [List.length_drop, List.length_take]; rfl)) ?_; (with_reducible refine (scrimref18_share.calls k5 (wrap64 (-t232)) ((rd_T74 x6_1 x21_5).f3) x14_3 t243 t244 _ A76.out).mono ?_); rintro e w91 ⟨rfl, hb⟩; refine ⟨_, rfl, ?_⟩; have n0_ := Aside0.mk (Kd.R_below (by (with_reducible repeat (first | apply Kd.R_alloc | apply Kd.R_drewN | apply Kd.R_drew)); exact HO_6.out) hb); have n1_ := Aside0.mk (Kd.R_below (by (with_reducible repeat (first | apply Kd.R_alloc | apply Kd.R_drewN | apply Kd.R_drew)); exact HO_7.out) hb); have n2_ := Aside0.mk (Kd.R_below (by (with_reducible repeat (first | apply Kd.R_alloc | apply Kd.R_drewN | apply Kd.R_drew)); exact HO_8.out) hb); have n3_ := Aside0.mk (below_step (by repeat (first | (with_reducible first | exact HB.out | apply below_alloc | apply pw_below_drewN | apply below_drew1) | exact HB.out)) hb); clear HO_6; clear HO_7; clear HO_8; clear HB; have HO_6 := n0_; have HO_7 := n1_; have HO_8 := n2_; have HB := n3_; clear n0_ n1_ n2_ n3_; (try clear hb); (try clear hb2); (try clear hk); (try clear hi); have p245 : 0 ≤ (x21_5 : Int) := of_decide_eq_true (by first | (with_reducible assumption) | assumption); have q245 : x21_5 < (x6_1.length : Int) := of_decide_eq_true (by first | (with_reducible assumption) | assumption); obtain ⟨ad245, e245, hx245_0, hx245_1, hx245_2, hx245_3⟩ := at_T74 (Kd.R_reads' HO_6.out).2.2 x21_5 p245 q245; obtain rfl : ad242 = ad245 := (by injection e245); replace p245 := eq_true p245; replace q245 := eq_true q245) | ((with_reducible refine gate_callee (f := 41) rfl ?_); refine goesL_ (some 182) rfl rfl Try.func41 (by kernel_rfl) rfl #[.int .i64 ((rd_T74 x6_1 x21_5).f0), .int .i64 t243] rfl (by (try simp only [List.map_toArray, List.map_cons, List.map_nil]); first | done | rfl | (simp only [List.length_drop, List.length_take]; rfl)) ?_; (with_reducible refine (scrimref01_Sub.calls ((rd_T74 x6_1 x21_5).f0) t243 t246 t247 _ A77.out).mono ?_); rintro e w' ⟨rfl, ⟨nd, rfl⟩⟩; refine ⟨_, rfl, ?_⟩; (try (rw [drewN_self w91]; generalize hq_ : World.drewN w91 _ = w91; have n0_ : Aside0 (Kd.R k74 74 w91 w.heap.size (fun _ => True) (.slice (some ad242) x6_1.length co47) x6_1) := ⟨by rw [← hq_]; exact (by (with_reducible repeat (first | apply Kd.R_alloc | apply Kd.R_drewN | apply Kd.R_drew)); exact HO_6.out)⟩; have n1_ : Aside0 (Kd.R (Kd.int .i64) 2 w91 w.heap.size (fun _ => True) u7 x7_5) := ⟨by rw [← hq_]; exact (by (with_reducible repeat (first | apply Kd.R_alloc | apply Kd.R_drewN | apply Kd.R_drew)); exact HO_7.out)⟩; have n2_ : Aside0 (Kd.R Kd.bool 4 w91 w.heap.size (fun _ => True) (.slice (some ad234) x8_2.length co90) x8_2) := ⟨by rw [← hq_]; exact (by (with_reducible repeat (first | apply Kd.R_alloc | apply Kd.R_drewN | apply Kd.R_drew)); exact HO_8.out)⟩; have n3_ : Aside0 (Below w.heap.size w w91) := ⟨by rw [← hq_]; exact (by repeat (first | (with_reducible first | exact HB.out | apply below_alloc | apply pw_below_drewN | apply below_drew1) | exact HB.out))⟩; clear HO_6 HO_7 HO_8 HB hq_; have HO_6 := n0_; have HO_7 := n1_; have HO_8 := n2_; have HB := n3_; clear n0_ n1_ n2_ n3_)); have p79 : 0 ≤ (x21_5 : Int) := of_decide_eq_true (by first | (with_reducible assumption) | assumption); have q79 : (x21_5 : Int) < ((x7_5.length : Int) : Int) := of_decide_eq_true (by first | (with_reducible assumption) | assumption); obtain ⟨go79, co79, eo79, gb79, gl79, cl79, HG79⟩ := Kd.R_form HO_7.out (by omega); (first | cases eo79 | (injection eo79 with ea_ en_ ec_; (first | subst ea_ | (injection ea_ with ea_; subst ea_)); subst ec_; clear en_)); have GB79 := Aside0.mk gb79; have GG79 := Aside0.mk HG79; clear gb79 gl79 HG79; obtain ⟨hx79_0, hf79_0⟩ := Kd.R_celln 0 HO_7.out (x21_5 : Int) p79 q79; replace p79 := eq_true p79; replace q79 := eq_true q79; obtain ⟨hy92_, hz92_⟩ := Kd.R_celln 0 HO_7.out (x21_5 : Int) (of_decide_eq_true (by first | (with_reducible assumption) | assumption)) (of_decide_eq_true (by first | (with_reducible assumption) | assumption)); have HP92 := Kd.R_putg HO_7.out (x21_5 : Int) t246) | ((with_reducible refine gate_store (t := 2) (p := 188) rfl ?_); refine store_event (t := 2) (p := 188) (v := ?vo_w93) (w1 := (w91.setCell ⟨go79, (x21_5 : Int).toNat, none⟩ (.int .i64 t246))) ?hg ?ho ?hn ?hr ?_; (case ho => rfl); (case hg => rfl); (case hn => rfl); (case hr => first | (go_simp; done) | (go_simp; rfl)); intro w93 hw; have hg : w91.grownBy w93 (some go79) := (by rw [hw]; exact HP92.2); have hp_ : Kd.R (Kd.int .i64) 2 w93 w.heap.size (fun _ => True) (.slice (some ⟨go79, 0, none⟩) x7_5.length co79) y248 := (by rw [hw, Ny248.out]; exact HP92.1); clear HP92; have n0_ := Aside0.mk (Kd.R_over' (v := (.slice (some ⟨go79, 0, none⟩) x7_5.length co79)) (by (with_reducible repeat (first | apply Kd.R_alloc | apply Kd.R_drewN | apply Kd.R_drew)); exact HO_6.out) (Kd.R_typed HO_7.out) (by decide) hg); have n1_ := Aside0.mk (hp_); have n2_ := Aside0.mk (Kd.R_over' (v := (.slice (some ⟨go79, 0, none⟩) x7_5.length co79)) (by (with_reducible repeat (first | apply Kd.R_alloc | apply Kd.R_drewN | apply Kd.R_drew)); exact HO_8.out) (Kd.R_typed HO_7.out) (by decide) hg); have n3_ := Aside0.mk ((by rw [hw]; exact below_set (HB.out) GB79.out : Below w.heap.size w w93)); clear HO_6; clear HO_7; clear HO_8; clear HB; have HO_6 := n0_; have HO_7 := n1_; have HO_8 := n2_; have HB := n3_; clear n0_ n1_ n2_ n3_; clear hg hw hp_))
                                            go_roundg k5
                                            case measure => have := HK1.out; have := HK2.out; have := HK3.out; have := HJ45.out; have := HK5.out; omega
                                            case rel => exact ⟨(y248), (false), (wrap64 (x21_5 + 1)), (by first | rfl | (simp; done) | (simp [*]; done)), (by first | rfl | (simp; done) | (simp [*]; done)), H', ⟨by have := HK1.out; have := HK2.out; have := HK3.out; have := HJ45.out; have := HK5.out; omega⟩, ⟨by (with_reducible repeat (first | apply Kd.R_alloc | apply Kd.R_drewN | apply Kd.R_drew)); exact HO_6.out⟩, ⟨by (with_reducible repeat (first | apply Kd.R_alloc | apply Kd.R_drewN | apply Kd.R_drew)); exact HO_7.out⟩, ⟨by (with_reducible repeat (first | apply Kd.R_alloc | apply Kd.R_drewN | apply Kd.R_drew)); exact HO_8.out⟩, ⟨by repeat (first | (with_reducible first | exact HB.out | apply below_alloc | apply pw_below_drewN | apply below_drew1) | exact HB.out)⟩⟩
                                        · rw [if_neg c78] at H
                                          exact absurd H (by simp)
                                  · rw [if_neg c53] at H
                                    exact absurd H (by simp)
                                · rw [if_neg c52] at H
                                  exact absurd H (by simp)
                              · rw [if_neg c51] at H
                                have c51b0 : decide (x21_5 < (x6_1.length : Int)) = false := decide_eq_false c51
                                clear c51
                                have H' := Aside0.mk H
                                clear H
                                go_wp2
                                go_loopg [11, 30] k5 (fun kq v11 v30 w' => ∃ (x7_6 : List Int) (x8_6 : List Bool) (x11_6 : Bool) (x30_6 : Int), v11 = .bool x11_6 ∧ v30 = .int .i64 x30_6 ∧ Aside0 (scrimref18_Share.l4 kq a1 x6_1 x7_6 x8_6 x10_5 x11_6 x30_6 = some (r1, r2)) ∧ Aside0 (kq ≤ k5) ∧ Aside0 (Kd.R k74 74 w' w.heap.size (fun _ => True) (.slice Ao47 x6_1.length co47) x6_1) ∧ Aside0 (Kd.R (Kd.int .i64) 2 w' w.heap.size (fun _ => True) u7 x7_6) ∧ Aside0 (Kd.R Kd.bool 4 w' w.heap.size (fun _ => True) u8 x8_6) ∧ Aside0 (Below w.heap.size w w'))
                                case atStart => exact ⟨(x7_5), (x8_2), (false), (0), (by first | rfl | (simp; done) | (simp [*]; done)), (by first | rfl | (simp; done) | (simp [*]; done)), H', ⟨Nat.le_refl _⟩, ⟨by (with_reducible repeat (first | apply Kd.R_alloc | apply Kd.R_drewN | apply Kd.R_drew)); exact HO_6.out⟩, ⟨by (with_reducible repeat (first | apply Kd.R_alloc | apply Kd.R_drewN | apply Kd.R_drew)); exact HO_7.out⟩, ⟨by (with_reducible repeat (first | apply Kd.R_alloc | apply Kd.R_drewN | apply Kd.R_drew)); exact HO_8.out⟩, ⟨by repeat (first | (with_reducible first | exact HB.out | apply below_alloc | apply pw_below_drewN | apply below_drew1) | exact HB.out)⟩⟩
                                case round =>
                                  as_aux_lemma =>
                                  clear H'
                                  try clear c1
                                  try clear p1
                                  try clear q1
                                  try clear hx1
                                  try clear c2
                                  try clear p2
                                  try clear q2
                                  try clear hx2
                                  try clear c3
                                  try clear c3b0
                                  try clear c3b1
                                  try clear c4
                                  try clear c5
                                  try clear q5
                                  try clear c6
                                  try clear p6
                                  try clear q6
                                  try clear hx6
                                  try clear hf6
                                  try clear c7
                                  try clear p7
                                  try clear q7
                                  try clear hx7
                                  try clear hf7
                                  try clear c8
                                  try clear c10
                                  try clear c10b0
                                  try clear c11
                                  try clear c11b0
                                  try clear c13
                                  try clear c14
                                  try clear c15
                                  try clear c16
                                  try clear p19
                                  try clear q19
                                  try clear hx19
                                  try clear c20
                                  try clear p21
                                  try clear q21
                                  try clear hx21
                                  try clear p22
                                  try clear q22
                                  try clear hx22
                                  try clear c23
                                  try clear c23b0
                                  try clear p23
                                  try clear q23
                                  try clear hx23
                                  try clear c24
                                  try clear c24b0
                                  try clear p24
                                  try clear q24
                                  try clear hx24
                                  try clear c25
                                  try clear c25b0
                                  try clear q26
                                  try clear c27
                                  try clear c28
                                  try clear c28b0
                                  try clear c29
                                  try clear c37
                                  try clear c39
                                  try clear c40
                                  try clear c41
                                  try clear c42
                                  try clear c43
                                  try clear c49
                                  try clear c50
                                  try clear c51
                                  try clear c51b0
                                  try clear c52
                                  try clear c52b0
                                  try clear c53
                                  try clear c53b0
                                  try clear q54
                                  try clear c55
                                  try clear c57
                                  try clear c57b0
                                  try clear c60
                                  try clear c60b0
                                  try clear p61
                                  try clear q61
                                  try clear hx61
                                  try clear hf61
                                  try clear c62
                                  try clear c63
                                  try clear p64
                                  try clear c78
                                  try clear c78b0
                                  try clear p79
                                  try clear q79
                                  try clear hx79
                                  try clear hf79
                                  try clear c80
                                  try clear c81
                                  try clear hx194_0
                                  try clear hx194_1
                                  try clear hx194_2
                                  try clear hx194_3
                                  try clear hx211_0
                                  try clear hx211_1
                                  try clear hx211_2
                                  try clear hx211_3
                                  try clear hx212_0
                                  try clear hx213_0
                                  try clear hx214_0
                                  try clear hx214_1
                                  try clear hx214_2
                                  try clear hx214_3
                                  try clear hx221_0
                                  try clear hx221_1
                                  try clear hx221_2
                                  try clear hx221_3
                                  try clear hx222_0
                                  try clear hx222_1
                                  try clear hx222_2
                                  try clear hx222_3
                                  try clear hx223_0
                                  try clear hx223_1
                                  try clear hx223_2
                                  try clear hx223_3
                                  try clear hx234_0
                                  try clear hx235_0
                                  try clear hx235_1
                                  try clear hx235_2
                                  try clear hx235_3
                                  try clear hx238_0
                                  try clear hx238_1
                                  try clear hx238_2
                                  try clear hx238_3
                                  try clear hx242_0
                                  try clear hx242_1
                                  try clear hx242_2
                                  try clear hx242_3
                                  try clear hx245_0
                                  try clear hx245_1
                                  try clear hx245_2
                                  try clear hx245_3
                                  try clear hx61_0
                                  try clear hx79_0
                                  try clear p1
                                  try clear p19
                                  try clear p194
                                  try clear p2
                                  try clear p21
                                  try clear p211
                                  try clear p212
                                  try clear p213
                                  try clear p214
                                  try clear p22
                                  try clear p221
                                  try clear p222
                                  try clear p223
                                  try clear p234
                                  try clear p235
                                  try clear p238
                                  try clear p242
                                  try clear p245
                                  try clear p6
                                  try clear p61
                                  try clear p79
                                  try clear q1
                                  try clear q19
                                  try clear q194
                                  try clear q2
                                  try clear q21
                                  try clear q211
                                  try clear q212
                                  try clear q213
                                  try clear q214
                                  try clear q22
                                  try clear q221
                                  try clear q222
                                  try clear q223
                                  try clear q234
                                  try clear q235
                                  try clear q238
                                  try clear q242
                                  try clear q245
                                  try clear q26
                                  try clear q61
                                  try clear q79
                                  obtain ⟨x7_6, x8_6, x11_6, x30_6, rfl, rfl, HA, HK6, HO_6, HO_7, HO_8, HB⟩ := hrel
                                  cases gk with
                                  | zero => exact absurd HA.out (by simp [scrimref18_Share.l4])
                                  | succ k6 =>
                                    have H := HA.out
                                    clear HA
                                    simp only [scrimref18_Share.l4] at H
                                    by_cases c94 : x30_6 < (x6_1.length : Int)
                                    · rw [if_pos c94] at H
                                      have c94b0 : decide (x30_6 < (x6_1.length : Int)) = true := decide_eq_true c94
                                      clear c94
                                      by_cases c95 : 0 ≤ x30_6
                                      · rw [if_pos c95] at H
                                        have c95b0 : decide (0 ≤ x30_6) = true := decide_eq_true c95
                                        clear c95
                                        by_cases c96 : x30_6 < (x8_6.length : Int)
                                        · rw [if_pos c96] at H
                                          have c96b0 : decide (x30_6 < (x8_6.length : Int)) = true := decide_eq_true c96
                                          clear c96
                                          obtain ⟨bq97, hbq97⟩ : ∃ b_ : Bool, b_ = (rdOf false x8_6 x30_6) := ⟨_, rfl⟩
                                          replace H : (if bq97 = true then (scrimref18_Share.l4 k6 a1 x6_1 x7_6 x8_6 x10_5 x11_6 (wrap64 (x30_6 + 1))) else (if x30_6 < (x7_6.length : Int) then (if (rd x7_6 x30_6) < 0 then (scrimref18_Share.l4 k6 a1 x6_1 (x7_6.set (x30_6 : Int).toNat 0) (x8_6.set (x30_6 : Int).toNat true) x10_5 true (wrap64 (x30_6 + 1))) else (scrimref18_Share.l4 k6 a1 x6_1 x7_6 x8_6 x10_5 x11_6 (wrap64 (x30_6 + 1)))) else (none))) = some (r1, r2) := by rw [← hbq97] at H; exact H
                                          have Nbq97 := Aside0.mk hbq97
                                          clear hbq97
                                          by_cases c98 : bq97 = true
                                          · subst c98
                                            have H1 : (scrimref18_Share.l4 k6 a1 x6_1 x7_6 x8_6 x10_5 x11_6 (wrap64 (x30_6 + 1))) = some (r1, r2) := by rw [if_pos rfl] at H; exact H
                                            clear H
                                            have H := H1
                                            clear H1
                                            have H' := Aside0.mk H
                                            clear H
                                            obtain ⟨Ao99, co99, eo99⟩ := Kd.R_slice HO_8.out
                                            subst eo99
                                            have p249 : 0 ≤ (x30_6 : Int) := of_decide_eq_true (by first | (with_reducible assumption) | assumption)
                                            have q249 : x30_6 < (x8_6.length : Int) := of_decide_eq_true (by first | (with_reducible assumption) | assumption)
                                            obtain ⟨ad249, e249, hx249_0⟩ := Kd.at_bool (Kd.R_reads' HO_8.out).2.2 x30_6 p249 q249
                                            (try rw [← Nbq97.out] at hx249_0)
                                            cases e249
                                            replace p249 := eq_true p249
                                            replace q249 := eq_true q249
                                            go_wp2
                                            go_roundg k6
                                            case measure => have := HK1.out; have := HK2.out; have := HK3.out; have := HJ45.out; have := HK5.out; have := HK6.out; omega
                                            case rel => exact ⟨(x7_6), (x8_6), (x11_6), (wrap64 (x30_6 + 1)), (by first | rfl | (simp; done) | (simp [*]; done)), (by first | rfl | (simp; done) | (simp [*]; done)), H', ⟨by have := HK1.out; have := HK2.out; have := HK3.out; have := HJ45.out; have := HK5.out; have := HK6.out; omega⟩, ⟨by (with_reducible repeat (first | apply Kd.R_alloc | apply Kd.R_drewN | apply Kd.R_drew)); exact HO_6.out⟩, ⟨by (with_reducible repeat (first | apply Kd.R_alloc | apply Kd.R_drewN | apply Kd.R_drew)); exact HO_7.out⟩, ⟨by (with_reducible repeat (first | apply Kd.R_alloc | apply Kd.R_drewN | apply Kd.R_drew)); exact HO_8.out⟩, ⟨by repeat (first | (with_reducible first | exact HB.out | apply below_alloc | apply pw_below_drewN | apply below_drew1) | exact HB.out)⟩⟩
                                          · replace c98 := Bool.eq_false_iff.mpr c98
                                            subst c98
                                            have H1 : (if x30_6 < (x7_6.length : Int) then (if (rd x7_6 x30_6) < 0 then (scrimref18_Share.l4 k6 a1 x6_1 (x7_6.set (x30_6 : Int).toNat 0) (x8_6.set (x30_6 : Int).toNat true) x10_5 true (wrap64 (x30_6 + 1))) else (scrimref18_Share.l4 k6 a1 x6_1 x7_6 x8_6 x10_5 x11_6 (wrap64 (x30_6 + 1)))) else (none)) = some (r1, r2) := by rw [if_neg (show ¬ (false = true) by decide)] at H; exact H
                                            clear H
                                            have H := H1
                                            clear H1
                                            by_cases c100 : x30_6 < (x7_6.length : Int)
                                            · rw [if_pos c100] at H
                                              have c100b0 : decide (x30_6 < (x7_6.length : Int)) = true := decide_eq_true c100
                                              clear c100
                                              by_cases c101 : (rd x7_6 x30_6) < 0
                                              · rw [if_pos c101] at H
                                                have c101b0 : decide ((rd x7_6 x30_6) < 0) = true := decide_eq_true c101
                                                clear c101
                                                obtain ⟨y251, hy251⟩ : ∃ y_ : List Int, y_ = (x7_6.set (x30_6 : Int).toNat 0) := ⟨_, rfl⟩
                                                replace H : (scrimref18_Share.l4 k6 a1 x6_1 y251 (x8_6.set (x30_6 : Int).toNat true) x10_5 true (wrap64 (x30_6 + 1))) = some (r1, r2) := by first | (rw [hy251]; with_reducible exact H) | (have H2_ := (Option.bind_some _ _).symm.trans H; rw [hy251]; with_reducible exact H2_) | (have H2_ := (Option.bind_some _ _).symm.trans H; with_reducible exact H2_) | with_reducible exact H | (rw [hy251]; exact H) | exact H
                                                have Ny251 := Aside0.mk hy251
                                                clear hy251
                                                obtain ⟨y252, hy252⟩ : ∃ y_ : List Bool, y_ = (x8_6.set (x30_6 : Int).toNat true) := ⟨_, rfl⟩
                                                replace H : (scrimref18_Share.l4 k6 a1 x6_1 y251 y252 x10_5 true (wrap64 (x30_6 + 1))) = some (r1, r2) := by first | (rw [hy252]; with_reducible exact H) | (have H2_ := (Option.bind_some _ _).symm.trans H; rw [hy252]; with_reducible exact H2_) | (have H2_ := (Option.bind_some _ _).symm.trans H; with_reducible exact H2_) | with_reducible exact H | (rw [hy252]; exact H) | exact H
                                                have Ny252 := Aside0.mk hy252
                                                clear hy252
                                                have H' := Aside0.mk H
                                                clear H
                                                obtain ⟨Ao104, co104, eo104⟩ := Kd.R_slice HO_8.out
                                                subst eo104
                                                have p249 : 0 ≤ (x30_6 : Int) := of_decide_eq_true (by first | (with_reducible assumption) | assumption)
                                                have q249 : x30_6 < (x8_6.length : Int) := of_decide_eq_true (by first | (with_reducible assumption) | assumption)
                                                obtain ⟨ad249, e249, hx249_0⟩ := Kd.at_bool (Kd.R_reads' HO_8.out).2.2 x30_6 p249 q249
                                                (try rw [← Nbq97.out] at hx249_0)
                                                cases e249
                                                replace p249 := eq_true p249
                                                replace q249 := eq_true q249
                                                obtain ⟨Ao105, co105, eo105⟩ := Kd.R_slice HO_7.out
                                                subst eo105
                                                have p250 : 0 ≤ (x30_6 : Int) := of_decide_eq_true (by first | (with_reducible assumption) | assumption)
                                                have q250 : x30_6 < (x7_6.length : Int) := of_decide_eq_true (by first | (with_reducible assumption) | assumption)
                                                obtain ⟨ad250, e250, hx250_0⟩ := Kd.at_int (Kd.R_reads' HO_7.out).2.2 x30_6 p250 q250
                                                cases e250
                                                replace p250 := eq_true p250
                                                replace q250 := eq_true q250
                                                have p102 : 0 ≤ (x30_6 : Int) := of_decide_eq_true (by first | (with_reducible assumption) | assumption)
                                                have q102 : (x30_6 : Int) < ((x7_6.length : Int) : Int) := of_decide_eq_true (by first | (with_reducible assumption) | assumption)
                                                obtain ⟨go102, co102, eo102, gb102, gl102, cl102, HG102⟩ := Kd.R_form HO_7.out (by omega)
                                                (first | cases eo102 | (injection eo102 with ea_ en_ ec_; (first | subst ea_ | (injection ea_ with ea_; subst ea_)); subst ec_; clear en_))
                                                have GB102 := Aside0.mk gb102
                                                have GG102 := Aside0.mk HG102
                                                clear gb102 gl102 HG102
                                                (first | simp only [add_plain] at hx250_0 | skip)
                                                obtain ⟨hx102_0, hf102_0⟩ := Kd.R_celln 0 HO_7.out (x30_6 : Int) p102 q102
                                                replace p102 := eq_true p102
                                                replace q102 := eq_true q102
                                                have HP106 := Kd.R_putg HO_7.out (x30_6 : Int) 0
                                                go_wp2_with (first | ((with_reducible refine gate_store (t := 2) (p := 216) rfl ?_); refine store_event (t := 2) (p := 216) (v := ?vo_w107) (w1 := (wr.setCell ⟨go102, (x30_6 : Int).toNat, none⟩ (.int .i64 0))) ?hg ?ho ?hn ?hr ?_; (case ho => rfl); (case hg => rfl); (case hn => rfl); (case hr => first | (go_simp; done) | (go_simp; rfl)); intro w107 hw; have hg : wr.grownBy w107 (some go102) := (by rw [hw]; exact HP106.2); have hp_ : Kd.R (Kd.int .i64) 2 w107 w.heap.size (fun _ => True) (.slice (some ⟨go102, 0, none⟩) x7_6.length co105) y251 := (by rw [hw, Ny251.out]; exact HP106.1); clear HP106; have n0_ := Aside0.mk (Kd.R_over' (v := (.slice (some ⟨go102, 0, none⟩) x7_6.length co105)) (by (with_reducible repeat (first | apply Kd.R_alloc | apply Kd.R_drewN | apply Kd.R_drew)); exact HO_6.out) (Kd.R_typed HO_7.out) (by decide) hg); have n1_ := Aside0.mk (hp_); have n2_ := Aside0.mk (Kd.R_over' (v := (.slice (some ⟨go102, 0, none⟩) x7_6.length co105)) (by (with_reducible repeat (first | apply Kd.R_alloc | apply Kd.R_drewN | apply Kd.R_drew)); exact HO_8.out) (Kd.R_typed HO_7.out) (by decide) hg); have n3_ := Aside0.mk ((by rw [hw]; exact below_set (HB.out) GB102.out : Below w.heap.size w w107)); clear HO_6; clear HO_7; clear HO_8; clear HB; have HO_6 := n0_; have HO_7 := n1_; have HO_8 := n2_; have HB := n3_; clear n0_ n1_ n2_ n3_; clear hg hw hp_; have p103 : 0 ≤ (x30_6 : Int) := of_decide_eq_true (by first | (with_reducible assumption) | assumption); have q103 : (x30_6 : Int) < ((x8_6.length : Int) : Int) := of_decide_eq_true (by first | (with_reducible assumption) | assumption); obtain ⟨go103, co103, eo103, gb103, gl103, cl103, HG103⟩ := Kd.R_form HO_8.out (by omega); (first | cases eo103 | (injection eo103 with ea_ en_ ec_; (first | subst ea_ | (injection ea_ with ea_; subst ea_)); subst ec_; clear en_)); have GB103 := Aside0.mk gb103; have GG103 := Aside0.mk HG103; clear gb103 gl103 HG103; (first | simp only [add_plain] at hx249_0 | skip); obtain ⟨hx103_0, hf103_0⟩ := Kd.R_celln false HO_8.out (x30_6 : Int) p103 q103; replace p103 := eq_true p103; replace q103 := eq_true q103; obtain ⟨hy108_, hz108_⟩ := Kd.R_celln false HO_8.out (x30_6 : Int) (of_decide_eq_true (by first | (with_reducible assumption) | assumption)) (of_decide_eq_true (by first | (with_reducible assumption) | assumption)); have HP108 := Kd.R_putg HO_8.out (x30_6 : Int) true) | ((with_reducible refine gate_store (t := 4) (p := 219) rfl ?_); refine store_event (t := 4) (p := 219) (v := ?vo_w109) (w1 := (w107.setCell ⟨go103, (x30_6 : Int).toNat, none⟩ (.bool true))) ?hg ?ho ?hn ?hr ?_; (case ho => rfl); (case hg => rfl); (case hn => rfl); (case hr => first | (go_simp; done) | (go_simp; rfl)); intro w109 hw; have hg : w107.grownBy w109 (some go103) := (by rw [hw]; exact HP108.2); have hp_ : Kd.R Kd.bool 4 w109 w.heap.size (fun _ => True) (.slice (some ⟨go103, 0, none⟩) x8_6.length co104) y252 := (by rw [hw, Ny252.out]; exact HP108.1); clear HP108; have n0_ := Aside0.mk (Kd.R_over' (v := (.slice (some ⟨go103, 0, none⟩) x8_6.length co104)) (by (with_reducible repeat (first | apply Kd.R_alloc | apply Kd.R_drewN | apply Kd.R_drew)); exact HO_6.out) (Kd.R_typed HO_8.out) (by decide) hg); have n1_ := Aside0.mk (Kd.R_over' (v := (.slice (some ⟨go103, 0, none⟩) x8_6.length co104)) (by (with_reducible repeat (first | apply Kd.R_alloc | apply Kd.R_drewN | apply Kd.R_drew)); exact HO_7.out) (Kd.R_typed HO_8.out) (by decide) hg); have n2_ := Aside0.mk (hp_); have n3_ := Aside0.mk ((by rw [hw]; exact below_set (HB.out) GB103.out : Below w.heap.size w w109)); clear HO_6; clear HO_7; clear HO_8; clear HB; have HO_6 := n0_; have HO_7 := n1_; have HO_8 := n2_; have HB := n3_; clear n0_ n1_ n2_ n3_; clear hg hw hp_))
                                                go_roundg k6
                                                case measure => have := HK1.out; have := HK2.out; have := HK3.out; have := HJ45.out; have := HK5.out; have := HK6.out; omega
                                                case rel => exact ⟨(y251), (y252), (true), (wrap64 (x30_6 + 1)), (by first | rfl | (simp; done) | (simp [*]; done)), (by first | rfl | (simp; done) | (simp [*]; done)), H', ⟨by have := HK1.out; have := HK2.out; have := HK3.out; have := HJ45.out; have := HK5.out; have := HK6.out; omega⟩, ⟨by (with_reducible repeat (first | apply Kd.R_alloc | apply Kd.R_drewN | apply Kd.R_drew)); exact HO_6.out⟩, ⟨by (with_reducible repeat (first | apply Kd.R_alloc | apply Kd.R_drewN | apply Kd.R_drew)); exact HO_7.out⟩, ⟨by (with_reducible repeat (first | apply Kd.R_alloc | apply Kd.R_drewN | apply Kd.R_drew)); exact HO_8.out⟩, ⟨by repeat (first | (with_reducible first | exact HB.out | apply below_alloc | apply pw_below_drewN | apply below_drew1) | exact HB.out)⟩⟩
                                              · rw [if_neg c101] at H
                                                have c101b0 : decide ((rd x7_6 x30_6) < 0) = false := decide_eq_false c101
                                                clear c101
                                                have H' := Aside0.mk H
                                                clear H
                                                obtain ⟨Ao110, co110, eo110⟩ := Kd.R_slice HO_8.out
                                                subst eo110
                                                have p249 : 0 ≤ (x30_6 : Int) := of_decide_eq_true (by first | (with_reducible assumption) | assumption)
                                                have q249 : x30_6 < (x8_6.length : Int) := of_decide_eq_true (by first | (with_reducible assumption) | assumption)
                                                obtain ⟨ad249, e249, hx249_0⟩ := Kd.at_bool (Kd.R_reads' HO_8.out).2.2 x30_6 p249 q249
                                                (try rw [← Nbq97.out] at hx249_0)
                                                cases e249
                                                replace p249 := eq_true p249
                                                replace q249 := eq_true q249
                                                obtain ⟨Ao111, co111, eo111⟩ := Kd.R_slice HO_7.out
                                                subst eo111
                                                have p250 : 0 ≤ (x30_6 : Int) := of_decide_eq_true (by first | (with_reducible assumption) | assumption)
                                                have q250 : x30_6 < (x7_6.length : Int) := of_decide_eq_true (by first | (with_reducible assumption) | assumption)
                                                obtain ⟨ad250, e250, hx250_0⟩ := Kd.at_int (Kd.R_reads' HO_7.out).2.2 x30_6 p250 q250
                                                cases e250
                                                replace p250 := eq_true p250
                                                replace q250 := eq_true q250
                                                go_wp2
                                                go_roundg k6
                                                case measure => have := HK1.out; have := HK2.out; have := HK3.out; have := HJ45.out; have := HK5.out; have := HK6.out; omega
                                                case rel => exact ⟨(x7_6), (x8_6), (x11_6), (wrap64 (x30_6 + 1)), (by first | rfl | (simp; done) | (simp [*]; done)), (by first | rfl | (simp; done) | (simp [*]; done)), H', ⟨by have := HK1.out; have := HK2.out; have := HK3.out; have := HJ45.out; have := HK5.out; have := HK6.out; omega⟩, ⟨by (with_reducible repeat (first | apply Kd.R_alloc | apply Kd.R_drewN | apply Kd.R_drew)); exact HO_6.out⟩, ⟨by (with_reducible repeat (first | apply Kd.R_alloc | apply Kd.R_drewN | apply Kd.R_drew)); exact HO_7.out⟩, ⟨by (with_reducible repeat (first | apply Kd.R_alloc | apply Kd.R_drewN | apply Kd.R_drew)); exact HO_8.out⟩, ⟨by repeat (first | (with_reducible first | exact HB.out | apply below_alloc | apply pw_below_drewN | apply below_drew1) | exact HB.out)⟩⟩
                                            · rw [if_neg c100] at H
                                              exact absurd H (by simp)
                                        · rw [if_neg c96] at H
                                          exact absurd H (by simp)
                                      · rw [if_neg c95] at H
                                        exact absurd H (by simp)
                                    · rw [if_neg c94] at H
                                      have c94b0 : decide (x30_6 < (x6_1.length : Int)) = false := decide_eq_false c94
                                      clear c94
                                      have H' := Aside0.mk H
                                      clear H
                                      go_wp2
                                      go_roundg k6
                                      case measure => have := HK1.out; have := HK2.out; have := HK3.out; have := HJ45.out; have := HK5.out; have := HK6.out; omega
                                      case rel => exact ⟨(x7_6), (x8_6), (x10_5), (x11_6), (by first | rfl | (simp; done) | (simp [*]; done)), (by first | rfl | (simp; done) | (simp [*]; done)), H', ⟨by have := HK1.out; have := HK2.out; have := HK3.out; have := HJ45.out; have := HK5.out; have := HK6.out; omega⟩, ⟨by (with_reducible repeat (first | apply Kd.R_alloc | apply Kd.R_drewN | apply Kd.R_drew)); exact HO_6.out⟩, ⟨by (with_reducible repeat (first | apply Kd.R_alloc | apply Kd.R_drewN | apply Kd.R_drew)); exact HO_7.out⟩, ⟨by (with_reducible repeat (first | apply Kd.R_alloc | apply Kd.R_drewN | apply Kd.R_drew)); exact HO_8.out⟩, ⟨by repeat (first | (with_reducible first | exact HB.out | apply below_alloc | apply pw_below_drewN | apply below_drew1) | exact HB.out)⟩⟩
              · replace c20 := Bool.eq_false_iff.mpr c20
                subst c20
                have H1 : (some (x7_2, x10_2)) = some (r1, r2) := by rw [if_neg (show ¬ (false = true) by decide)] at H; exact H
                clear H
                have H := H1
                clear H1
                simp only [Option.some.injEq, Prod.mk.injEq] at H
                obtain ⟨rfl, rfl⟩ := H
                go_wp2
                go_ret2
                exact ⟨_, by first | rfl | (simp [errW_none, errW_some] <;> rfl) | (simp [*, errW_none, errW_some] <;> rfl), by (with_reducible repeat (first | apply Kd.R_alloc | apply Kd.R_drewN | apply Kd.R_drew)); exact HO_7.out, by repeat (first | (with_reducible first | exact HB.out | apply below_alloc | apply pw_below_drewN | apply below_drew1) | exact HB.out)⟩

end Go.Proofs.Ytdifaomkaekglaa.HF
