-- Written by a program of this session (wip/tools/hprint.py), which drives the kit's print; not print.sh's own output.
import Derived.Test.YtdifaomkaekglaaDoorHS0
import Derived.Test.YtdifaomkaekglaaDoorHS1
namespace Go.Proofs.YtdifaomkaekglaaDoor.HS
open Go.RowKit Go.Proofs.YtdifaomkaekglaaDoorW.PrintWords Go.Proofs.YtdifaomkaekglaaDoorW.PrintLast Go.Proofs.YtdifaomkaekglaaDoorW.PrintMore
attribute [local go_sem] max2_int min2_int max_two min_two max_three min_three max_four min_four   -- for this text's walks alone
set_option linter.unusedVariables false
set_option linter.unusedSimpArgs false

attribute [local go_sem high] eqA29
/-! ### scan_Trim: function 12 (by hand) -/
def scan_Trim.f (a0 : ByteArray) : Option ByteArray := if a0.size < 4294967281 then some (Go.Proofs.Scn.trimV a0) else none
theorem scan_Trim.calls (a0 : ByteArray) (r : ByteArray) (w : World) (h : scan_Trim.f a0 = some r) :
    Calls Tryd.prog 12 #[.string a0] w fun e w' => e = .returned (.string r) ∧ Below w.heap.size w w' := by
  unfold scan_Trim.f at h
  by_cases h1 : a0.size < 4294967281
  · rw [if_pos h1] at h
    cases h
    exact Go.Proofs.Scn.trim_any a0 w h1
  · rw [if_neg h1] at h; cases h


/-! ### strings_IndexAny: function 21 (by hand) -/
def strings_IndexAny.f (a0 : ByteArray) (a1 : ByteArray) : Option Int := if a0.size < 4294967281 then (if 2 ≤ a1.size then (if a1.size ≤ 1000 then (if a1.data.toList.all (fun b => decide (b.toNat < 128)) = true then some (Lib.indexAny a0.data.toList a1.data.toList) else none) else none) else none) else none
theorem strings_IndexAny.calls (a0 : ByteArray) (a1 : ByteArray) (r : Int) (w : World) (h : strings_IndexAny.f a0 a1 = some r) :
    Calls Tryd.prog 21 #[.string a0, .string a1] w fun e w' => e = .returned (.int .i64 r) ∧ Below w.heap.size w w' := by
  unfold strings_IndexAny.f at h
  by_cases h1 : a0.size < 4294967281
  · rw [if_pos h1] at h
    by_cases h2 : 2 ≤ a1.size
    · rw [if_pos h2] at h
      by_cases h3 : a1.size ≤ 1000
      · rw [if_pos h3] at h
        by_cases h4 : a1.data.toList.all (fun b => decide (b.toNat < 128)) = true
        · rw [if_pos h4] at h
          cases h
          exact Go.Proofs.ShX.xIndexAny Tryd.lays153 (by kernel_rfl) a0 a1 w h1 h2 h3 (fun j b hb => of_decide_eq_true (List.all_eq_true.1 h4 b (List.mem_of_getElem? hb)))
        · rw [if_neg h4] at h; cases h
      · rw [if_neg h3] at h; cases h
    · rw [if_neg h2] at h; cases h
  · rw [if_neg h1] at h; cases h


/-! ### strings_Cut: function 22 (by hand) -/
def strings_Cut.f (a0 : ByteArray) (a1 : ByteArray) : Option (ByteArray × ByteArray × Bool) := if a0.size < 4294967281 then (if a1.size = 1 then some (⟨(Lib.cut a0.data.toList a1.data.toList).1.toArray⟩, ⟨(Lib.cut a0.data.toList a1.data.toList).2.1.toArray⟩, (Lib.cut a0.data.toList a1.data.toList).2.2) else none) else none
theorem strings_Cut.calls (a0 : ByteArray) (a1 : ByteArray) (r1 : ByteArray) (r2 : ByteArray) (r3 : Bool) (w : World) (h : strings_Cut.f a0 a1 = some (r1, r2, r3)) :
    Calls Tryd.prog 22 #[.string a0, .string a1] w fun e w' => e = .returned (.tuple #[.string r1, .string r2, .bool r3]) ∧ Drawn0 w w' := by
  unfold strings_Cut.f at h
  by_cases h1 : a0.size < 4294967281
  · rw [if_pos h1] at h
    by_cases h2 : a1.size = 1
    · rw [if_pos h2] at h
      obtain ⟨c, rfl⟩ := Lib.one_byte a1 h2
      cases h
      exact (Go.Proofs.ShX.xCut_one Tryd.lays145 a0 c w h1).mono fun e w' ⟨he, n, hn⟩ => ⟨he, ⟨⟨n, hn⟩⟩⟩
    · rw [if_neg h2] at h; cases h
  · rw [if_neg h1] at h; cases h


/-! ### scan_Blocks: function 8 -/
def scan_Blocks.l0 : Nat → ByteArray → List (S29) → Option ((List (S29)))
  | 0, _, _ => none
  | k + 1, x0, x3 => (strings_IndexAny.f x0 (⟨#[123, 125]⟩ : ByteArray)).bind fun t101 => (if t101 < 0 then (some x3) else (if 0 ≤ t101 then (if t101 < (x0.size : Int) then (if (bt x0 t101) = 125 then (if 0 ≤ (wrap64 (t101 + 1)) then (if (wrap64 (t101 + 1)) ≤ (x0.size : Int) then (scan_Blocks.l0 k (x0.extract ((wrap64 (t101 + 1)) : Int).toNat x0.size) x3) else (none)) else (none)) else (if 0 ≤ (wrap64 (t101 + 1)) then (if (wrap64 (t101 + 1)) ≤ (x0.size : Int) then ((strings_Cut.f (x0.extract ((wrap64 (t101 + 1)) : Int).toNat x0.size) (⟨#[125]⟩ : ByteArray)).bind fun bt102 => (if bt102.2.2 = true then (if t101 ≤ (x0.size : Int) then ((scan_Trim.f (x0.extract 0 (t101 : Int).toNat)).bind fun t105 => ((scan_Trim.f bt102.1).bind fun t106 => (if x3.length < 4398046511104 then (scan_Blocks.l0 k bt102.2.1 (x3 ++ [(⟨t105, t106⟩ : S29)])) else (none)))) else (none)) else (some x3))) else (none)) else (none))) else (none)) else (none)))
def scan_Blocks.f (k : Nat) (a0 : ByteArray) : Option ((List (S29))) := scan_Blocks.l0 k a0 ([] : List (S29))
theorem scan_Blocks.mono_l : ∀ k, (∀ y0 y1, LeO (scan_Blocks.l0 k y0 y1) (scan_Blocks.l0 (k + 1) y0 y1))
  | 0 => fun _ _ r h => by simp [scan_Blocks.l0] at h
  | k + 1 => by
    have ih0 := scan_Blocks.mono_l k
    · intro y0 y1
      unfold scan_Blocks.l0
      repeat' first
      | (with_reducible exact ih0 _ _)
      | (with_reducible exact LeO.refl _)
      | (with_reducible exact LeO.none _)
      | (with_reducible refine LeO.ite ?_ ?_)
      | (with_reducible refine LeO.bind ?_ (fun _ => ?_))
      | exact ih0 _ _
      | exact LeO.none _
      | refine LeO.ite ?_ ?_
      | refine LeO.bind ?_ (fun _ => ?_)
theorem scan_Blocks.mono : ∀ a0 k, LeO (scan_Blocks.f k a0) (scan_Blocks.f (k + 1) a0) := by
  intro a0 k
  have ih0 := scan_Blocks.mono_l k
  unfold scan_Blocks.f
  repeat' first
      | (with_reducible exact ih0 _ _)
      | (with_reducible exact LeO.refl _)
      | (with_reducible exact LeO.none _)
      | (with_reducible refine LeO.ite ?_ ?_)
      | (with_reducible refine LeO.bind ?_ (fun _ => ?_))
      | exact ih0 _ _
      | exact LeO.none _
      | refine LeO.ite ?_ ?_
      | refine LeO.bind ?_ (fun _ => ?_)
set_option maxHeartbeats 8000000 in
set_option maxRecDepth 100000 in
theorem scan_Blocks.calls (k : Nat) (a0 : ByteArray) (r : List (S29)) (w : World) (h : scan_Blocks.f k a0 = some r) :
    Calls Tryd.prog 8 #[.string a0] w fun e w' => ∃ v0_ : Value, e = .returned (v0_) ∧ Kd.R k29 29 w' w.heap.size (fun _ => True) v0_ r ∧ Below w.heap.size w w' := by
  have hu29 := Tryd.underlying29
  have HB := Aside0.mk (Below.refl w.heap.size w)
  have H : (scan_Blocks.l0 k a0 ([] : List (S29))) = some r := h
  clear h
  have H' := Aside0.mk H
  clear H
  go_enter Tryd.func8, Tryd.ntmps8
  go_wp2
  go_loopg [0, 3] k (fun kq v0 v3 w' => ∃ (x0_1 : ByteArray) (x3_1 : List (S29)), v0 = .string x0_1 ∧ Aside0 (scan_Blocks.l0 kq x0_1 x3_1 = some r) ∧ Aside0 (kq ≤ k) ∧ Aside0 (Kd.R k29 29 w' w.heap.size (fun _ => True) v3 x3_1) ∧ Aside0 (Below w.heap.size w w'))
  case atStart => exact ⟨(a0), (([] : List (S29))), (by first | rfl | (simp; done) | (simp [*]; done)), H', ⟨Nat.le_refl _⟩, ⟨by first | exact Kd.R_nil _ _ _ _ _ | exact Kd.N_nil _ _ _ _ _ | exact Kd.V_nil _ _ _ _ _ | exact Kd.Q_nil _ _ _ _ _ | exact Kd.S_nil _ _ _ _ _⟩, ⟨by repeat (first | (with_reducible first | exact HB.out | apply below_alloc | apply pw_below_drewN | apply below_drew1) | exact HB.out)⟩⟩
  case round =>
    clear H'
    obtain ⟨x0_1, x3_1, rfl, HA, HK1, HO_3, HB⟩ := hrel
    cases gk with
    | zero => exact absurd HA.out (by simp [scan_Blocks.l0])
    | succ k1 =>
      have H := HA.out
      clear HA
      simp only [scan_Blocks.l0] at H
      replace H := Option.bind_eq_some_iff.mp H
      obtain ⟨t101, A20, H⟩ := H
      replace H : (if t101 < 0 then (some x3_1) else (if 0 ≤ t101 then (if t101 < (x0_1.size : Int) then (if (bt x0_1 t101) = 125 then (if 0 ≤ (wrap64 (t101 + 1)) then (if (wrap64 (t101 + 1)) ≤ (x0_1.size : Int) then (scan_Blocks.l0 k1 (x0_1.extract ((wrap64 (t101 + 1)) : Int).toNat x0_1.size) x3_1) else (none)) else (none)) else (if 0 ≤ (wrap64 (t101 + 1)) then (if (wrap64 (t101 + 1)) ≤ (x0_1.size : Int) then ((strings_Cut.f (x0_1.extract ((wrap64 (t101 + 1)) : Int).toNat x0_1.size) (⟨#[125]⟩ : ByteArray)).bind fun bt102 => (if bt102.2.2 = true then (if t101 ≤ (x0_1.size : Int) then ((scan_Trim.f (x0_1.extract 0 (t101 : Int).toNat)).bind fun t105 => ((scan_Trim.f bt102.1).bind fun t106 => (if x3_1.length < 4398046511104 then (scan_Blocks.l0 k1 bt102.2.1 (x3_1 ++ [(⟨t105, t106⟩ : S29)])) else (none)))) else (none)) else (some x3_1))) else (none)) else (none))) else (none)) else (none))) = some r := H
      have A2 := Aside0.mk A20
      clear A20
      by_cases c3 : t101 < 0
      · rw [if_pos c3] at H
        have c3b0 : decide (t101 < 0) = true := decide_eq_true c3
        clear c3
        obtain rfl := Option.some.inj H
        go_wp2_with (first | ((with_reducible refine gate_callee (f := 21) rfl ?_); refine goesL_ (some 9) rfl rfl Tryd.func21 (by kernel_rfl) rfl #[.string x0_1, .string (⟨#[123, 125]⟩ : ByteArray)] rfl (by (try simp only [List.map_toArray, List.map_cons, List.map_nil]); first | done | rfl | (simp only [List.length_drop, List.length_take]; rfl)) ?_; (with_reducible refine (strings_IndexAny.calls x0_1 (⟨#[123, 125]⟩ : ByteArray) t101 _ A2.out).mono ?_); rintro e w4 ⟨rfl, hb⟩; refine ⟨_, rfl, ?_⟩; have n0_ := Aside0.mk (Kd.R_below (by (with_reducible repeat (first | apply Kd.R_alloc | apply Kd.R_drewN | apply Kd.R_drew)); exact HO_3.out) hb); have n1_ := Aside0.mk (below_step (by repeat (first | (with_reducible first | exact HB.out | apply below_alloc | apply pw_below_drewN | apply below_drew1) | exact HB.out)) hb); clear HO_3; clear HB; have HO_3 := n0_; have HB := n1_; clear n0_ n1_; (try clear hb); (try clear hb2); (try clear hk); (try clear hi)))
        go_ret
        exact ⟨_, by first | rfl | (simp [errW_none, errW_some] <;> rfl) | (simp [*, errW_none, errW_some] <;> rfl), by (with_reducible repeat (first | apply Kd.R_alloc | apply Kd.R_drewN | apply Kd.R_drew)); exact HO_3.out, by repeat (first | (with_reducible first | exact HB.out | apply below_alloc | apply pw_below_drewN | apply below_drew1) | exact HB.out)⟩
      · rw [if_neg c3] at H
        have c3b0 : decide (t101 < 0) = false := decide_eq_false c3
        clear c3
        by_cases c5 : 0 ≤ t101
        · rw [if_pos c5] at H
          have c5b0 : decide (0 ≤ t101) = true := decide_eq_true c5
          clear c5
          by_cases c6 : t101 < (x0_1.size : Int)
          · rw [if_pos c6] at H
            have c6b0 : decide (t101 < (x0_1.size : Int)) = true := decide_eq_true c6
            clear c6
            by_cases c8 : (bt x0_1 t101) = 125
            · rw [if_pos c8] at H
              have c8b0 : ((bt x0_1 t101) == 125) = true := beq_iff_eq.mpr c8
              have c8b1 : ((bt x0_1 t101) != 125) = false := bne_eq_false_iff_eq.mpr c8
              clear c8
              obtain ⟨ji9, hji9⟩ : ∃ j_ : Int, (wrap64 (t101 + 1)) = j_ := ⟨_, rfl⟩
              replace H : (if 0 ≤ (ji9) then (if (ji9) ≤ (x0_1.size : Int) then (scan_Blocks.l0 k1 (x0_1.extract ((ji9) : Int).toNat x0_1.size) x3_1) else (none)) else (none)) = some r := by first | (rw [hji9] at H; exact H) | (simp only [hji9] at H ⊢; exact H)
              (try rw [hji9] at A2)
              have hji9w : (IntKind.i64.wrap (t101 + 1)) = ji9 := (i64_w _).trans hji9
              by_cases c10 : 0 ≤ (ji9)
              · rw [if_pos c10] at H
                have c10b0 := eq_true c10
                have c10b1 : decide (0 ≤ (ji9)) = true := decide_eq_true c10
                clear c10
                by_cases c11 : (ji9) ≤ (x0_1.size : Int)
                · rw [if_pos c11] at H
                  have c11b0 := eq_true c11
                  have c11b1 : decide ((ji9) ≤ (x0_1.size : Int)) = true := decide_eq_true c11
                  clear c11
                  have H' := Aside0.mk H
                  clear H
                  go_wp2_with (first | ((with_reducible refine gate_callee (f := 21) rfl ?_); refine goesL_ (some 9) rfl rfl Tryd.func21 (by kernel_rfl) rfl #[.string x0_1, .string (⟨#[123, 125]⟩ : ByteArray)] rfl (by (try simp only [List.map_toArray, List.map_cons, List.map_nil]); first | done | rfl | (simp only [List.length_drop, List.length_take]; rfl)) ?_; (with_reducible refine (strings_IndexAny.calls x0_1 (⟨#[123, 125]⟩ : ByteArray) t101 _ A2.out).mono ?_); rintro e w12 ⟨rfl, hb⟩; refine ⟨_, rfl, ?_⟩; have n0_ := Aside0.mk (Kd.R_below (by (with_reducible repeat (first | apply Kd.R_alloc | apply Kd.R_drewN | apply Kd.R_drew)); exact HO_3.out) hb); have n1_ := Aside0.mk (below_step (by repeat (first | (with_reducible first | exact HB.out | apply below_alloc | apply pw_below_drewN | apply below_drew1) | exact HB.out)) hb); clear HO_3; clear HB; have HO_3 := n0_; have HB := n1_; clear n0_ n1_; (try clear hb); (try clear hb2); (try clear hk); (try clear hi); have p7 : 0 ≤ (t101 : Int) := of_decide_eq_true (by first | (with_reducible assumption) | assumption); have q7 : t101 < (x0_1.size : Int) := of_decide_eq_true (by first | (with_reducible assumption) | assumption); have hx7 := bt_at x0_1 t101; replace p7 := eq_true p7; replace q7 := eq_true q7))
                  go_roundg k1
                  case measure => have := HK1.out; omega
                  case rel => exact ⟨(x0_1.extract ((ji9) : Int).toNat x0_1.size), (x3_1), (by first | rfl | (simp; done) | (simp only [← hji9] <;> (first | rfl | simp)) | (simp [*]; done)), H', ⟨by have := HK1.out; omega⟩, ⟨by (with_reducible repeat (first | apply Kd.R_alloc | apply Kd.R_drewN | apply Kd.R_drew)); exact HO_3.out⟩, ⟨by repeat (first | (with_reducible first | exact HB.out | apply below_alloc | apply pw_below_drewN | apply below_drew1) | exact HB.out)⟩⟩
                · rw [if_neg c11] at H
                  exact absurd H (by simp)
              · rw [if_neg c10] at H
                exact absurd H (by simp)
            · rw [if_neg c8] at H
              have c8b0 : ((bt x0_1 t101) == 125) = false := beq_eq_false_iff_ne.mpr c8
              have c8b1 : ((bt x0_1 t101) != 125) = true := bne_iff_ne.mpr c8
              obtain ⟨ji13, hji13⟩ : ∃ j_ : Int, (wrap64 (t101 + 1)) = j_ := ⟨_, rfl⟩
              replace H : (if 0 ≤ (ji13) then (if (ji13) ≤ (x0_1.size : Int) then ((strings_Cut.f (x0_1.extract ((ji13) : Int).toNat x0_1.size) (⟨#[125]⟩ : ByteArray)).bind fun bt102 => (if bt102.2.2 = true then (if t101 ≤ (x0_1.size : Int) then ((scan_Trim.f (x0_1.extract 0 (t101 : Int).toNat)).bind fun t105 => ((scan_Trim.f bt102.1).bind fun t106 => (if x3_1.length < 4398046511104 then (scan_Blocks.l0 k1 bt102.2.1 (x3_1 ++ [(⟨t105, t106⟩ : S29)])) else (none)))) else (none)) else (some x3_1))) else (none)) else (none)) = some r := by first | (rw [hji13] at H; exact H) | (simp only [hji13] at H ⊢; exact H)
              (try rw [hji13] at A2)
              have hji13w : (IntKind.i64.wrap (t101 + 1)) = ji13 := (i64_w _).trans hji13
              by_cases c14 : 0 ≤ (ji13)
              · rw [if_pos c14] at H
                have c14b0 := eq_true c14
                have c14b1 : decide (0 ≤ (ji13)) = true := decide_eq_true c14
                clear c14
                by_cases c15 : (ji13) ≤ (x0_1.size : Int)
                · rw [if_pos c15] at H
                  have c15b0 := eq_true c15
                  have c15b1 : decide ((ji13) ≤ (x0_1.size : Int)) = true := decide_eq_true c15
                  clear c15
                  replace H := Option.bind_eq_some_iff.mp H
                  obtain ⟨⟨t102, t103, t104⟩, A160, H⟩ := H
                  replace H : (if t104 = true then (if t101 ≤ (x0_1.size : Int) then ((scan_Trim.f (x0_1.extract 0 (t101 : Int).toNat)).bind fun t105 => ((scan_Trim.f t102).bind fun t106 => (if x3_1.length < 4398046511104 then (scan_Blocks.l0 k1 t103 (x3_1 ++ [(⟨t105, t106⟩ : S29)])) else (none)))) else (none)) else (some x3_1)) = some r := H
                  have A16 := Aside0.mk A160
                  clear A160
                  by_cases c17 : t104 = true
                  · subst c17
                    have H1 : (if t101 ≤ (x0_1.size : Int) then ((scan_Trim.f (x0_1.extract 0 (t101 : Int).toNat)).bind fun t105 => ((scan_Trim.f t102).bind fun t106 => (if x3_1.length < 4398046511104 then (scan_Blocks.l0 k1 t103 (x3_1 ++ [(⟨t105, t106⟩ : S29)])) else (none)))) else (none)) = some r := by rw [if_pos rfl] at H; exact H
                    clear H
                    have H := H1
                    clear H1
                    have c18b0 := eq_true (of_decide_eq_true (by first | (with_reducible assumption) | assumption) : 0 ≤ t101)
                    by_cases c19 : t101 ≤ (x0_1.size : Int)
                    · rw [if_pos c19] at H
                      have c19b0 := eq_true c19
                      have c19b1 : decide (t101 ≤ (x0_1.size : Int)) = true := decide_eq_true c19
                      clear c19
                      replace H := Option.bind_eq_some_iff.mp H
                      obtain ⟨t105, A200, H⟩ := H
                      replace H : ((scan_Trim.f t102).bind fun t106 => (if x3_1.length < 4398046511104 then (scan_Blocks.l0 k1 t103 (x3_1 ++ [(⟨t105, t106⟩ : S29)])) else (none))) = some r := H
                      have A20 := Aside0.mk A200
                      clear A200
                      replace H := Option.bind_eq_some_iff.mp H
                      obtain ⟨t106, A210, H⟩ := H
                      replace H : (if x3_1.length < 4398046511104 then (scan_Blocks.l0 k1 t103 (x3_1 ++ [(⟨t105, t106⟩ : S29)])) else (none)) = some r := H
                      have A21 := Aside0.mk A210
                      clear A210
                      by_cases c22 : x3_1.length < 4398046511104
                      · rw [if_pos c22] at H
                        have LMc22 := Aside0.mk c22
                        clear c22
                        obtain ⟨y107, hy107⟩ : ∃ y_ : List (S29), y_ = (x3_1 ++ [(⟨t105, t106⟩ : S29)]) := ⟨_, rfl⟩
                        replace H : (scan_Blocks.l0 k1 t103 y107) = some r := by first | (rw [hy107]; with_reducible exact H) | (have H2_ := (Option.bind_some _ _).symm.trans H; rw [hy107]; with_reducible exact H2_) | (have H2_ := (Option.bind_some _ _).symm.trans H; with_reducible exact H2_) | with_reducible exact H | (rw [hy107]; exact H) | exact H
                        have Ny107 := Aside0.mk hy107
                        clear hy107
                        have H' := Aside0.mk H
                        clear H
                        go_wp2_with (first | ((with_reducible refine gate_callee (f := 21) rfl ?_); refine goesL_ (some 9) rfl rfl Tryd.func21 (by kernel_rfl) rfl #[.string x0_1, .string (⟨#[123, 125]⟩ : ByteArray)] rfl (by (try simp only [List.map_toArray, List.map_cons, List.map_nil]); first | done | rfl | (simp only [List.length_drop, List.length_take]; rfl)) ?_; (with_reducible refine (strings_IndexAny.calls x0_1 (⟨#[123, 125]⟩ : ByteArray) t101 _ A2.out).mono ?_); rintro e w23 ⟨rfl, hb⟩; refine ⟨_, rfl, ?_⟩; have n0_ := Aside0.mk (Kd.R_below (by (with_reducible repeat (first | apply Kd.R_alloc | apply Kd.R_drewN | apply Kd.R_drew)); exact HO_3.out) hb); have n1_ := Aside0.mk (below_step (by repeat (first | (with_reducible first | exact HB.out | apply below_alloc | apply pw_below_drewN | apply below_drew1) | exact HB.out)) hb); clear HO_3; clear HB; have HO_3 := n0_; have HB := n1_; clear n0_ n1_; (try clear hb); (try clear hb2); (try clear hk); (try clear hi); have p7 : 0 ≤ (t101 : Int) := of_decide_eq_true (by first | (with_reducible assumption) | assumption); have q7 : t101 < (x0_1.size : Int) := of_decide_eq_true (by first | (with_reducible assumption) | assumption); have hx7 := bt_at x0_1 t101; replace p7 := eq_true p7; replace q7 := eq_true q7) | ((with_reducible refine gate_callee (f := 22) rfl ?_); refine goesL_ (some 26) rfl rfl Tryd.func22 (by kernel_rfl) rfl #[.string (x0_1.extract ((ji13) : Int).toNat x0_1.size), .string (⟨#[125]⟩ : ByteArray)] rfl (by (try simp only [List.map_toArray, List.map_cons, List.map_nil]); first | done | (simp only [hji13]; rfl) | rfl | (simp only [List.length_drop, List.length_take]; rfl)) ?_; (with_reducible refine (strings_Cut.calls (x0_1.extract ((ji13) : Int).toNat x0_1.size) (⟨#[125]⟩ : ByteArray) t102 t103 true _ A16.out).mono ?_); rintro e w' ⟨rfl, ⟨nd, rfl⟩⟩; refine ⟨_, rfl, ?_⟩) | ((with_reducible refine gate_callee (f := 12) rfl ?_); refine goesL_ (some 37) rfl rfl Tryd.func12 (by kernel_rfl) rfl #[.string (x0_1.extract 0 (t101 : Int).toNat)] rfl (by (try simp only [List.map_toArray, List.map_cons, List.map_nil]); first | done | rfl | (simp only [List.length_drop, List.length_take]; rfl)) ?_; (with_reducible refine (scan_Trim.calls (x0_1.extract 0 (t101 : Int).toNat) t105 _ A20.out).mono ?_); rintro e w24 ⟨rfl, hb⟩; refine ⟨_, rfl, ?_⟩; have n0_ := Aside0.mk (Kd.R_below (by (with_reducible repeat (first | apply Kd.R_alloc | apply Kd.R_drewN | apply Kd.R_drew)); exact HO_3.out) hb); have n1_ := Aside0.mk (below_step (by repeat (first | (with_reducible first | exact HB.out | apply below_alloc | apply pw_below_drewN | apply below_drew1) | exact HB.out)) hb); clear HO_3; clear HB; have HO_3 := n0_; have HB := n1_; clear n0_ n1_; (try clear hb); (try clear hb2); (try clear hk); (try clear hi)) | ((with_reducible refine gate_callee (f := 12) rfl ?_); refine goesL_ (some 39) rfl rfl Tryd.func12 (by kernel_rfl) rfl #[.string t102] rfl (by (try simp only [List.map_toArray, List.map_cons, List.map_nil]); first | done | rfl | (simp only [List.length_drop, List.length_take]; rfl)) ?_; (with_reducible refine (scan_Trim.calls t102 t106 _ A21.out).mono ?_); rintro e w25 ⟨rfl, hb⟩; refine ⟨_, rfl, ?_⟩; have n0_ := Aside0.mk (Kd.R_below (by (with_reducible repeat (first | apply Kd.R_alloc | apply Kd.R_drewN | apply Kd.R_drew)); exact HO_3.out) hb); have n1_ := Aside0.mk (below_step (by repeat (first | (with_reducible first | exact HB.out | apply below_alloc | apply pw_below_drewN | apply below_drew1) | exact HB.out)) hb); clear HO_3; clear HB; have HO_3 := n0_; have HB := n1_; clear n0_ n1_; (try clear hb); (try clear hb2); (try clear hk); (try clear hi)) | ((with_reducible refine gate_builtin (b := .append) (xs := #[.tmp 33, .tmp 41]) rfl ?_); at_builtin; refine Kd.R_append k29 (w0 := w) w.heap.size rfl (.tmp 33) (.tmp 41) 23 29 (.agg #[(.string ⟨#[]⟩), (.string ⟨#[]⟩)]) 32 rfl Tryd.underlying23 info29 rfl (by decide) (by omega) u3 x3_1 (⟨t105, t106⟩ : S29) [.string t105, .string t106] (fun _ => True) (fun _ => False) rfl rfl ?aP (fun _ hk => hk.elim) ?aF ?aO ?aB ?aS ?aL ?_; (case aP => exact k29_mkM _ _ _ (⟨t105, t106⟩ : S29)); (case aB => exact (by repeat (first | (with_reducible first | exact HB.out | apply below_alloc | apply pw_below_drewN | apply below_drew1) | exact HB.out))); (case aF => exact (fun _ _ => trivial)); (case aO => exact (by (with_reducible repeat (first | apply Kd.R_alloc | apply Kd.R_drewN | apply Kd.R_drew)); exact HO_3.out)); (case aS => exact (below_size (by repeat (first | (with_reducible first | exact HB.out | apply below_alloc | apply pw_below_drewN | apply below_drew1) | exact HB.out)))); (case aL => have := LMc22.out; omega); intro v108 w26 ho hb hg hat; rw [← Ny107.out] at ho; have n0_ := Aside0.mk (hb); have n1_ := Aside0.mk (ho); clear HB; clear HO_3; have HB := n0_; have HO109 := n1_; clear n0_ n1_; clear ho hb hg hat))
                        go_roundg k1
                        case measure => have := HK1.out; omega
                        case rel => exact ⟨(t103), (y107), (by first | rfl | (simp; done) | (simp [*]; done)), H', ⟨by have := HK1.out; omega⟩, ⟨by (with_reducible repeat (first | apply Kd.R_alloc | apply Kd.R_drewN | apply Kd.R_drew)); exact HO109.out⟩, ⟨by repeat (first | (with_reducible first | exact HB.out | apply below_alloc | apply pw_below_drewN | apply below_drew1) | exact HB.out)⟩⟩
                      · rw [if_neg c22] at H
                        exact absurd H (by simp)
                    · rw [if_neg c19] at H
                      exact absurd H (by simp)
                  · replace c17 := Bool.eq_false_iff.mpr c17
                    subst c17
                    have H1 : (some x3_1) = some r := by rw [if_neg (show ¬ (false = true) by decide)] at H; exact H
                    clear H
                    have H := H1
                    clear H1
                    obtain rfl := Option.some.inj H
                    go_wp2_with (first | ((with_reducible refine gate_callee (f := 21) rfl ?_); refine goesL_ (some 9) rfl rfl Tryd.func21 (by kernel_rfl) rfl #[.string x0_1, .string (⟨#[123, 125]⟩ : ByteArray)] rfl (by (try simp only [List.map_toArray, List.map_cons, List.map_nil]); first | done | rfl | (simp only [List.length_drop, List.length_take]; rfl)) ?_; (with_reducible refine (strings_IndexAny.calls x0_1 (⟨#[123, 125]⟩ : ByteArray) t101 _ A2.out).mono ?_); rintro e w27 ⟨rfl, hb⟩; refine ⟨_, rfl, ?_⟩; have n0_ := Aside0.mk (Kd.R_below (by (with_reducible repeat (first | apply Kd.R_alloc | apply Kd.R_drewN | apply Kd.R_drew)); exact HO_3.out) hb); have n1_ := Aside0.mk (below_step (by repeat (first | (with_reducible first | exact HB.out | apply below_alloc | apply pw_below_drewN | apply below_drew1) | exact HB.out)) hb); clear HO_3; clear HB; have HO_3 := n0_; have HB := n1_; clear n0_ n1_; (try clear hb); (try clear hb2); (try clear hk); (try clear hi); have p7 : 0 ≤ (t101 : Int) := of_decide_eq_true (by first | (with_reducible assumption) | assumption); have q7 : t101 < (x0_1.size : Int) := of_decide_eq_true (by first | (with_reducible assumption) | assumption); have hx7 := bt_at x0_1 t101; replace p7 := eq_true p7; replace q7 := eq_true q7) | ((with_reducible refine gate_callee (f := 22) rfl ?_); refine goesL_ (some 26) rfl rfl Tryd.func22 (by kernel_rfl) rfl #[.string (x0_1.extract ((ji13) : Int).toNat x0_1.size), .string (⟨#[125]⟩ : ByteArray)] rfl (by (try simp only [List.map_toArray, List.map_cons, List.map_nil]); first | done | (simp only [hji13]; rfl) | rfl | (simp only [List.length_drop, List.length_take]; rfl)) ?_; (with_reducible refine (strings_Cut.calls (x0_1.extract ((ji13) : Int).toNat x0_1.size) (⟨#[125]⟩ : ByteArray) t102 t103 false _ A16.out).mono ?_); rintro e w' ⟨rfl, ⟨nd, rfl⟩⟩; refine ⟨_, rfl, ?_⟩))
                    go_ret
                    exact ⟨_, by first | rfl | (simp [errW_none, errW_some] <;> rfl) | (simp only [← hji13]; first | rfl | (simp [errW_none, errW_some] <;> rfl)) | (simp [*, errW_none, errW_some] <;> rfl), by (with_reducible repeat (first | apply Kd.R_alloc | apply Kd.R_drewN | apply Kd.R_drew)); exact HO_3.out, by repeat (first | (with_reducible first | exact HB.out | apply below_alloc | apply pw_below_drewN | apply below_drew1) | exact HB.out)⟩
                · rw [if_neg c15] at H
                  exact absurd H (by simp)
              · rw [if_neg c14] at H
                exact absurd H (by simp)
          · rw [if_neg c6] at H
            exact absurd H (by simp)
        · rw [if_neg c5] at H
          exact absurd H (by simp)

/-! ### scan_Strip: function 10 (by hand) -/
def scan_Strip.f (a0 : ByteArray) : Option ByteArray := if a0.size < 4294967281 then some (Go.Proofs.Scn.stripV a0) else none
theorem scan_Strip.calls (a0 : ByteArray) (r : ByteArray) (w : World) (h : scan_Strip.f a0 = some r) (hmx : Go.Proofs.Scn.Mx w) :
    Calls Tryd.prog 10 #[.string a0] w fun e w' => e = .returned (.string r) ∧ Below w.heap.size w w' := by
  unfold scan_Strip.f at h
  by_cases h1 : a0.size < 4294967281
  · rw [if_pos h1] at h
    cases h
    exact Go.Proofs.Scn.strip_any a0 w h1 hmx
  · rw [if_neg h1] at h; cases h


/-! ### scrimref07_Same: function 14 -/
def scrimref07_Same.l0 : Nat → List ByteArray → List ByteArray → Int → Option (Bool)
  | 0, _, _, _ => none
  | k + 1, x0, x1, x5 => if x5 < (x0.length : Int) then (if 0 ≤ x5 then (if x5 < (x1.length : Int) then (if (rdOf ByteArray.empty x0 x5).toList = (rdOf ByteArray.empty x1 x5).toList then (scrimref07_Same.l0 k x0 x1 (wrap64 (x5 + 1))) else (some false)) else (none)) else (none)) else (some true)
def scrimref07_Same.f (k : Nat) (l0 : List ByteArray) (l1 : List ByteArray) : Option (Bool) := if (l0.length : Int) = (l1.length : Int) then (scrimref07_Same.l0 k l0 l1 0) else (some false)
theorem scrimref07_Same.mono_l : ∀ k, (∀ y0 y1 y2, LeO (scrimref07_Same.l0 k y0 y1 y2) (scrimref07_Same.l0 (k + 1) y0 y1 y2))
  | 0 => fun _ _ _ r h => by simp [scrimref07_Same.l0] at h
  | k + 1 => by
    have ih0 := scrimref07_Same.mono_l k
    · intro y0 y1 y2
      unfold scrimref07_Same.l0
      repeat' first
      | (with_reducible exact ih0 _ _ _)
      | (with_reducible exact LeO.refl _)
      | (with_reducible exact LeO.none _)
      | (with_reducible refine LeO.ite ?_ ?_)
      | (with_reducible refine LeO.bind ?_ (fun _ => ?_))
      | exact ih0 _ _ _
      | exact LeO.none _
      | refine LeO.ite ?_ ?_
      | refine LeO.bind ?_ (fun _ => ?_)
theorem scrimref07_Same.mono : ∀ a0 a1 k, LeO (scrimref07_Same.f k a0 a1) (scrimref07_Same.f (k + 1) a0 a1) := by
  intro a0 a1 k
  have ih0 := scrimref07_Same.mono_l k
  unfold scrimref07_Same.f
  repeat' first
      | (with_reducible exact ih0 _ _ _)
      | (with_reducible exact LeO.refl _)
      | (with_reducible exact LeO.none _)
      | (with_reducible refine LeO.ite ?_ ?_)
      | (with_reducible refine LeO.bind ?_ (fun _ => ?_))
      | exact ih0 _ _ _
      | exact LeO.none _
      | refine LeO.ite ?_ ?_
      | refine LeO.bind ?_ (fun _ => ?_)
set_option maxHeartbeats 8000000 in
set_option maxRecDepth 100000 in
theorem scrimref07_Same.calls (k : Nat) (A0 : Option Addr) (c0 : Nat) (l0 : List ByteArray) (A1 : Option Addr) (c1 : Nat) (l1 : List ByteArray) (r : Bool) (w : World) (hr0 : Kd.C Kd.string w A0 l0.length l0) (hc0 : l0.length ≤ c0) (hr1 : Kd.C Kd.string w A1 l1.length l1) (hc1 : l1.length ≤ c1) (h : scrimref07_Same.f k l0 l1 = some r) :
    Calls Tryd.prog 14 #[.slice A0 l0.length c0, .slice A1 l1.length c1] w fun e w' => e = .returned (.bool r) ∧ Drawn0 w w' := by
  have HR0 := Aside0.mk hr0
  have HC0 := Aside0.mk hc0
  clear hr0 hc0
  have HR1 := Aside0.mk hr1
  have HC1 := Aside0.mk hc1
  clear hr1 hc1
  have H : (if (l0.length : Int) = (l1.length : Int) then (scrimref07_Same.l0 k l0 l1 0) else (some false)) = some r := h
  clear h
  by_cases c3 : (l0.length : Int) = (l1.length : Int)
  · rw [if_pos c3] at H
    have c3b0 : ((l0.length : Int) == (l1.length : Int)) = true := beq_iff_eq.mpr c3
    have c3b1 : ((l0.length : Int) != (l1.length : Int)) = false := bne_eq_false_iff_eq.mpr c3
    have c3b2 : (l0.length == l1.length) = true := by first | simpa using c3 | (simp at c3 ⊢; omega)
    clear c3
    have H' := Aside0.mk H
    clear H
    go_enter Tryd.func14, Tryd.ntmps14
    go_wp2
    repeat (go_quiet (fail); try go_wp2)
    go_loopg [5] k (fun kq v5 w' => ∃ (x5_1 : Int), v5 = .int .i64 x5_1 ∧ Aside0 (scrimref07_Same.l0 kq l0 l1 x5_1 = some r) ∧ Aside0 (kq ≤ k) ∧ Drawn0 w w')
    case atStart => exact ⟨(0), (by first | rfl | (simp; done) | (simp [*]; done)), H', ⟨Nat.le_refl _⟩, by repeat (first | exact Drawn0.refl _ | apply Drawn0.step)⟩
    case round =>
      clear H'
      try clear c1
      try clear p2
      try clear c3
      try clear c3b0
      try clear c3b1
      try clear c3b2
      obtain ⟨x5_1, rfl, HA, HK1, ⟨m1, rfl⟩⟩ := hrel
      cases gk with
      | zero => exact absurd HA.out (by simp [scrimref07_Same.l0])
      | succ k1 =>
        have H := HA.out
        clear HA
        simp only [scrimref07_Same.l0] at H
        by_cases c4 : x5_1 < (l0.length : Int)
        · rw [if_pos c4] at H
          have c4b0 : decide (x5_1 < (l0.length : Int)) = true := decide_eq_true c4
          clear c4
          by_cases c5 : 0 ≤ x5_1
          · rw [if_pos c5] at H
            have c5b0 : decide (0 ≤ x5_1) = true := decide_eq_true c5
            clear c5
            by_cases c6 : x5_1 < (l1.length : Int)
            · rw [if_pos c6] at H
              have c6b0 : decide (x5_1 < (l1.length : Int)) = true := decide_eq_true c6
              clear c6
              by_cases c7 : (rdOf ByteArray.empty l0 x5_1).toList = (rdOf ByteArray.empty l1 x5_1).toList
              · rw [if_pos c7] at H
                have c7b0 : ((rdOf ByteArray.empty l0 x5_1).toList == (rdOf ByteArray.empty l1 x5_1).toList) = true := beq_iff_eq.mpr c7
                have c7b1 : ((rdOf ByteArray.empty l0 x5_1).toList != (rdOf ByteArray.empty l1 x5_1).toList) = false := bne_eq_false_iff_eq.mpr c7
                clear c7
                have H' := Aside0.mk H
                clear H
                have p110 : 0 ≤ (x5_1 : Int) := of_decide_eq_true (by first | (with_reducible assumption) | assumption)
                have q110 : x5_1 < (l0.length : Int) := of_decide_eq_true (by first | (with_reducible assumption) | assumption)
                obtain ⟨ad110, e110, hx110_0⟩ := Kd.at_string HR0.out x5_1 p110 q110
                cases e110
                replace p110 := eq_true p110
                replace q110 := eq_true q110
                have p111 : 0 ≤ (x5_1 : Int) := of_decide_eq_true (by first | (with_reducible assumption) | assumption)
                have q111 : x5_1 < (l1.length : Int) := of_decide_eq_true (by first | (with_reducible assumption) | assumption)
                obtain ⟨ad111, e111, hx111_0⟩ := Kd.at_string HR1.out x5_1 p111 q111
                cases e111
                replace p111 := eq_true p111
                replace q111 := eq_true q111
                go_wp2
                repeat (go_quiet (fail); try go_wp2)
                go_roundg k1
                case measure => have := HK1.out; omega
                case rel => exact ⟨(wrap64 (x5_1 + 1)), (by first | rfl | (simp; done) | (simp [*]; done)), H', ⟨by have := HK1.out; omega⟩, by repeat (first | exact Drawn0.refl _ | apply Drawn0.step)⟩
              · rw [if_neg c7] at H
                have c7b0 : ((rdOf ByteArray.empty l0 x5_1).toList == (rdOf ByteArray.empty l1 x5_1).toList) = false := beq_eq_false_iff_ne.mpr c7
                have c7b1 : ((rdOf ByteArray.empty l0 x5_1).toList != (rdOf ByteArray.empty l1 x5_1).toList) = true := bne_iff_ne.mpr c7
                obtain rfl := Option.some.inj H
                have p110 : 0 ≤ (x5_1 : Int) := of_decide_eq_true (by first | (with_reducible assumption) | assumption)
                have q110 : x5_1 < (l0.length : Int) := of_decide_eq_true (by first | (with_reducible assumption) | assumption)
                obtain ⟨ad110, e110, hx110_0⟩ := Kd.at_string HR0.out x5_1 p110 q110
                cases e110
                replace p110 := eq_true p110
                replace q110 := eq_true q110
                have p111 : 0 ≤ (x5_1 : Int) := of_decide_eq_true (by first | (with_reducible assumption) | assumption)
                have q111 : x5_1 < (l1.length : Int) := of_decide_eq_true (by first | (with_reducible assumption) | assumption)
                obtain ⟨ad111, e111, hx111_0⟩ := Kd.at_string HR1.out x5_1 p111 q111
                cases e111
                replace p111 := eq_true p111
                replace q111 := eq_true q111
                go_wp2
                repeat (go_quiet (fail); try go_wp2)
                go_ret
                exact ⟨by first | rfl | (simp; done) | (simp [*]; done), by repeat (first | exact Drawn0.refl _ | apply Drawn0.step)⟩
            · rw [if_neg c6] at H
              exact absurd H (by simp)
          · rw [if_neg c5] at H
            exact absurd H (by simp)
        · rw [if_neg c4] at H
          have c4b0 : decide (x5_1 < (l0.length : Int)) = false := decide_eq_false c4
          clear c4
          obtain rfl := Option.some.inj H
          go_wp2
          repeat (go_quiet (fail); try go_wp2)
          go_ret
          exact ⟨by first | rfl | (simp; done) | (simp [*]; done), by repeat (first | exact Drawn0.refl _ | apply Drawn0.step)⟩
  · rw [if_neg c3] at H
    have c3b0 : ((l0.length : Int) == (l1.length : Int)) = false := beq_eq_false_iff_ne.mpr c3
    have c3b1 : ((l0.length : Int) != (l1.length : Int)) = true := bne_iff_ne.mpr c3
    have c3b2 : (l0.length == l1.length) = false := by first | simpa using c3 | (simp at c3 ⊢; omega)
    obtain rfl := Option.some.inj H
    go_enter Tryd.func14, Tryd.ntmps14
    go_wp2
    repeat (go_quiet (fail); try go_wp2)
    go_ret
    exact ⟨by first | rfl | (simp; done) | (simp [*]; done), by repeat (first | exact Drawn0.refl _ | apply Drawn0.step)⟩

/-! ### scan_Split: function 15 (by hand) -/
def scan_Split.f (a0 : ByteArray) (a1 : Int) : Option (List ByteArray) := if a0.size < 4294967281 then some (Go.Proofs.Scn.splitV a0 (UInt8.ofNat a1.toNat)) else none
theorem scan_Split.calls (a0 : ByteArray) (a1 : Int) (r : List ByteArray) (w : World) (h : scan_Split.f a0 a1 = some r) :
    Calls Tryd.prog 15 #[.string a0, .int .u8 a1] w fun e w' => ∃ v0_ : Value, e = .returned (v0_) ∧ Kd.R Kd.string 9 w' w.heap.size (fun _ => True) v0_ r ∧ Below w.heap.size w w' := by
  unfold scan_Split.f at h
  by_cases h1 : a0.size < 4294967281
  · rw [if_pos h1] at h
    cases h
    exact Go.Proofs.Scn.split_any a0 a1 w h1
  · rw [if_neg h1] at h; cases h


/-! ### scan_Words: function 17 (by hand) -/
def scan_Words.f (a0 : ByteArray) : Option (List ByteArray) := if a0.size < 4294967281 then some (Go.Proofs.Scn.wordsV a0) else none
theorem scan_Words.calls (a0 : ByteArray) (r : List ByteArray) (w : World) (h : scan_Words.f a0 = some r) :
    Calls Tryd.prog 17 #[.string a0] w fun e w' => ∃ v0_ : Value, e = .returned (v0_) ∧ Kd.R Kd.string 9 w' w.heap.size (fun _ => True) v0_ r ∧ Below w.heap.size w w' := by
  unfold scan_Words.f at h
  by_cases h1 : a0.size < 4294967281
  · rw [if_pos h1] at h
    cases h
    exact Go.Proofs.Scn.words_any a0 w h1
  · rw [if_neg h1] at h; cases h


/-! ### scan_Lower: function 19 (by hand) -/
def scan_Lower.f (a0 : ByteArray) : Option ByteArray := if a0.size < 4294967281 then some (Go.Proofs.Scn.lowV a0) else none
theorem scan_Lower.calls (a0 : ByteArray) (r : ByteArray) (w : World) (h : scan_Lower.f a0 = some r) :
    Calls Tryd.prog 19 #[.string a0] w fun e w' => e = .returned (.string r) ∧ Below w.heap.size w w' := by
  unfold scan_Lower.f at h
  by_cases h1 : a0.size < 4294967281
  · rw [if_pos h1] at h
    cases h
    exact Go.Proofs.Scn.lower_any a0 w h1
  · rw [if_neg h1] at h; cases h


/-! ### scrimlaw07_awake: function 7 -/
def scrimlaw07_awake.f (k : Nat)  : Option (Bool) := (scan_Blocks.f k (⟨#[97, 32, 123, 32, 98, 32, 125, 32, 125, 32, 99, 32, 123, 100, 125, 32, 101, 32, 123]⟩ : ByteArray)).bind fun t112 => (if (t112.length : Int) = 2 then (if 0 < (t112.length : Int) then (if ((((rd_T29 t112 0).f0).toList) == ([97] : List UInt8) && ((((rd_T29 t112 0).f1).toList) == ([98] : List UInt8))) = true then (if 1 < (t112.length : Int) then (if ((((rd_T29 t112 1).f0).toList) == ([99] : List UInt8) && ((((rd_T29 t112 1).f1).toList) == ([100] : List UInt8))) = true then ((scan_Strip.f (⟨#[97, 47, 42, 98, 42, 47, 99, 47, 42, 100]⟩ : ByteArray)).bind fun t117 => (if t117.toList = ([97, 32, 99, 32] : List UInt8) then ((scan_Trim.f (⟨#[32, 97, 10]⟩ : ByteArray)).bind fun t118 => (if t118.toList = ([97] : List UInt8) then ((scan_Split.f (⟨#[97, 44, 32, 98]⟩ : ByteArray) 44).bind fun t119 => ((scrimref07_Same.f k t119 (([(⟨#[97]⟩ : ByteArray), (⟨#[98]⟩ : ByteArray)] : List ByteArray))).bind fun t125 => (if t125 = true then ((scan_Words.f (⟨#[32, 97, 32, 32, 98]⟩ : ByteArray)).bind fun t126 => ((scrimref07_Same.f k t126 (([(⟨#[97]⟩ : ByteArray), (⟨#[98]⟩ : ByteArray)] : List ByteArray))).bind fun t132 => (if t132 = true then ((scan_Lower.f (⟨#[97, 66]⟩ : ByteArray)).bind fun t133 => (some (t133.toList == ([97, 98] : List UInt8)))) else (some false)))) else (some false)))) else (some false))) else (some false))) else (some false)) else (none)) else (some false)) else (none)) else (some false))
theorem scrimlaw07_awake.mono : ∀ k, LeO (scrimlaw07_awake.f k ) (scrimlaw07_awake.f (k + 1) ) := by
  intro  k
  unfold scrimlaw07_awake.f
  repeat' first
      | (with_reducible exact scan_Blocks.mono _ _)
      | (with_reducible exact scrimref07_Same.mono _ _ _)
      | (with_reducible exact LeO.refl _)
      | (with_reducible exact LeO.none _)
      | (with_reducible refine LeO.ite ?_ ?_)
      | (with_reducible refine LeO.bind ?_ (fun _ => ?_))
      | exact scan_Blocks.mono _ _
      | exact scrimref07_Same.mono _ _ _
      | exact LeO.none _
      | refine LeO.ite ?_ ?_
      | refine LeO.bind ?_ (fun _ => ?_)
set_option maxHeartbeats 8000000 in
set_option maxRecDepth 100000 in
theorem scrimlaw07_awake.calls (k : Nat)  (r : Bool) (hrt : r = true) (w : World) (h : scrimlaw07_awake.f k  = some r) (hmx : Go.Proofs.Scn.Mx w) :
    Calls Tryd.prog 7 #[] w fun e w' => e = .returned (.bool r) ∧ Below w.heap.size w w' := by
  have HMX := Aside0.mk hmx
  clear hmx
  have hu29 := Tryd.underlying29
  have HB := Aside0.mk (Below.refl w.heap.size w)
  have H : ((scan_Blocks.f k (⟨#[97, 32, 123, 32, 98, 32, 125, 32, 125, 32, 99, 32, 123, 100, 125, 32, 101, 32, 123]⟩ : ByteArray)).bind fun t112 => (if (t112.length : Int) = 2 then (if 0 < (t112.length : Int) then (if ((((rd_T29 t112 0).f0).toList) == ([97] : List UInt8) && ((((rd_T29 t112 0).f1).toList) == ([98] : List UInt8))) = true then (if 1 < (t112.length : Int) then (if ((((rd_T29 t112 1).f0).toList) == ([99] : List UInt8) && ((((rd_T29 t112 1).f1).toList) == ([100] : List UInt8))) = true then ((scan_Strip.f (⟨#[97, 47, 42, 98, 42, 47, 99, 47, 42, 100]⟩ : ByteArray)).bind fun t117 => (if t117.toList = ([97, 32, 99, 32] : List UInt8) then ((scan_Trim.f (⟨#[32, 97, 10]⟩ : ByteArray)).bind fun t118 => (if t118.toList = ([97] : List UInt8) then ((scan_Split.f (⟨#[97, 44, 32, 98]⟩ : ByteArray) 44).bind fun t119 => ((scrimref07_Same.f k t119 (([(⟨#[97]⟩ : ByteArray), (⟨#[98]⟩ : ByteArray)] : List ByteArray))).bind fun t125 => (if t125 = true then ((scan_Words.f (⟨#[32, 97, 32, 32, 98]⟩ : ByteArray)).bind fun t126 => ((scrimref07_Same.f k t126 (([(⟨#[97]⟩ : ByteArray), (⟨#[98]⟩ : ByteArray)] : List ByteArray))).bind fun t132 => (if t132 = true then ((scan_Lower.f (⟨#[97, 66]⟩ : ByteArray)).bind fun t133 => (some (t133.toList == ([97, 98] : List UInt8)))) else (some false)))) else (some false)))) else (some false))) else (some false))) else (some false)) else (none)) else (some false)) else (none)) else (some false))) = some r := h
  clear h
  replace H := Option.bind_eq_some_iff.mp H
  obtain ⟨t112, A10, H⟩ := H
  replace H : (if (t112.length : Int) = 2 then (if 0 < (t112.length : Int) then (if ((((rd_T29 t112 0).f0).toList) == ([97] : List UInt8) && ((((rd_T29 t112 0).f1).toList) == ([98] : List UInt8))) = true then (if 1 < (t112.length : Int) then (if ((((rd_T29 t112 1).f0).toList) == ([99] : List UInt8) && ((((rd_T29 t112 1).f1).toList) == ([100] : List UInt8))) = true then ((scan_Strip.f (⟨#[97, 47, 42, 98, 42, 47, 99, 47, 42, 100]⟩ : ByteArray)).bind fun t117 => (if t117.toList = ([97, 32, 99, 32] : List UInt8) then ((scan_Trim.f (⟨#[32, 97, 10]⟩ : ByteArray)).bind fun t118 => (if t118.toList = ([97] : List UInt8) then ((scan_Split.f (⟨#[97, 44, 32, 98]⟩ : ByteArray) 44).bind fun t119 => ((scrimref07_Same.f k t119 (([(⟨#[97]⟩ : ByteArray), (⟨#[98]⟩ : ByteArray)] : List ByteArray))).bind fun t125 => (if t125 = true then ((scan_Words.f (⟨#[32, 97, 32, 32, 98]⟩ : ByteArray)).bind fun t126 => ((scrimref07_Same.f k t126 (([(⟨#[97]⟩ : ByteArray), (⟨#[98]⟩ : ByteArray)] : List ByteArray))).bind fun t132 => (if t132 = true then ((scan_Lower.f (⟨#[97, 66]⟩ : ByteArray)).bind fun t133 => (some (t133.toList == ([97, 98] : List UInt8)))) else (some false)))) else (some false)))) else (some false))) else (some false))) else (some false)) else (none)) else (some false)) else (none)) else (some false)) = some r := H
  have A1 := Aside0.mk A10
  clear A10
  by_cases c2 : (t112.length : Int) = 2
  · rw [if_pos c2] at H
    have c2b0 : ((t112.length : Int) == 2) = true := beq_iff_eq.mpr c2
    have c2b1 : ((t112.length : Int) != 2) = false := bne_eq_false_iff_eq.mpr c2
    clear c2
    by_cases c3 : 0 < (t112.length : Int)
    · rw [if_pos c3] at H
      have c3b0 : decide (0 < (t112.length : Int)) = true := decide_eq_true c3
      have c3b1 : decide (0 < t112.length) = true := decide_eq_true (by omega)
      clear c3
      by_cases c4 : ((((rd_T29 t112 0).f0).toList) == ([97] : List UInt8) && ((((rd_T29 t112 0).f1).toList) == ([98] : List UInt8))) = true
      · rw [if_pos c4] at H
        have c4b0 : ((((rd_T29 t112 0).f0).toList) == ([97] : List UInt8) && ((((rd_T29 t112 0).f1).toList) == ([98] : List UInt8))) = true := c4
        (try (have c4b1 : decide ((((rd_T29 t112 0).f0).toList) = ([97] : List UInt8) && ((((rd_T29 t112 0).f1).toList) == ([98] : List UInt8))) = true := by simpa using c4))
        (try (have c4b2 : ((((rd_T29 t112 0).f0).toList) == ([97] : List UInt8) && ((((rd_T29 t112 0).f1).toList) == ([98] : List UInt8))) = true := by simpa using c4))
        clear c4
        by_cases c5 : 1 < (t112.length : Int)
        · rw [if_pos c5] at H
          have c5b0 : decide (1 < (t112.length : Int)) = true := decide_eq_true c5
          have c5b1 : decide (1 < t112.length) = true := decide_eq_true (by omega)
          clear c5
          by_cases c6 : ((((rd_T29 t112 1).f0).toList) == ([99] : List UInt8) && ((((rd_T29 t112 1).f1).toList) == ([100] : List UInt8))) = true
          · rw [if_pos c6] at H
            have c6b0 : ((((rd_T29 t112 1).f0).toList) == ([99] : List UInt8) && ((((rd_T29 t112 1).f1).toList) == ([100] : List UInt8))) = true := c6
            (try (have c6b1 : decide ((((rd_T29 t112 1).f0).toList) = ([99] : List UInt8) && ((((rd_T29 t112 1).f1).toList) == ([100] : List UInt8))) = true := by simpa using c6))
            (try (have c6b2 : ((((rd_T29 t112 1).f0).toList) == ([99] : List UInt8) && ((((rd_T29 t112 1).f1).toList) == ([100] : List UInt8))) = true := by simpa using c6))
            clear c6
            replace H := Option.bind_eq_some_iff.mp H
            obtain ⟨t117, A70, H⟩ := H
            replace H : (if t117.toList = ([97, 32, 99, 32] : List UInt8) then ((scan_Trim.f (⟨#[32, 97, 10]⟩ : ByteArray)).bind fun t118 => (if t118.toList = ([97] : List UInt8) then ((scan_Split.f (⟨#[97, 44, 32, 98]⟩ : ByteArray) 44).bind fun t119 => ((scrimref07_Same.f k t119 (([(⟨#[97]⟩ : ByteArray), (⟨#[98]⟩ : ByteArray)] : List ByteArray))).bind fun t125 => (if t125 = true then ((scan_Words.f (⟨#[32, 97, 32, 32, 98]⟩ : ByteArray)).bind fun t126 => ((scrimref07_Same.f k t126 (([(⟨#[97]⟩ : ByteArray), (⟨#[98]⟩ : ByteArray)] : List ByteArray))).bind fun t132 => (if t132 = true then ((scan_Lower.f (⟨#[97, 66]⟩ : ByteArray)).bind fun t133 => (some (t133.toList == ([97, 98] : List UInt8)))) else (some false)))) else (some false)))) else (some false))) else (some false)) = some r := H
            have A7 := Aside0.mk A70
            clear A70
            by_cases c8 : t117.toList = ([97, 32, 99, 32] : List UInt8)
            · rw [if_pos c8] at H
              have c8b0 : (t117.toList == ([97, 32, 99, 32] : List UInt8)) = true := beq_iff_eq.mpr c8
              have c8b1 : (t117.toList != ([97, 32, 99, 32] : List UInt8)) = false := bne_eq_false_iff_eq.mpr c8
              clear c8
              replace H := Option.bind_eq_some_iff.mp H
              obtain ⟨t118, A90, H⟩ := H
              replace H : (if t118.toList = ([97] : List UInt8) then ((scan_Split.f (⟨#[97, 44, 32, 98]⟩ : ByteArray) 44).bind fun t119 => ((scrimref07_Same.f k t119 (([(⟨#[97]⟩ : ByteArray), (⟨#[98]⟩ : ByteArray)] : List ByteArray))).bind fun t125 => (if t125 = true then ((scan_Words.f (⟨#[32, 97, 32, 32, 98]⟩ : ByteArray)).bind fun t126 => ((scrimref07_Same.f k t126 (([(⟨#[97]⟩ : ByteArray), (⟨#[98]⟩ : ByteArray)] : List ByteArray))).bind fun t132 => (if t132 = true then ((scan_Lower.f (⟨#[97, 66]⟩ : ByteArray)).bind fun t133 => (some (t133.toList == ([97, 98] : List UInt8)))) else (some false)))) else (some false)))) else (some false)) = some r := H
              have A9 := Aside0.mk A90
              clear A90
              by_cases c10 : t118.toList = ([97] : List UInt8)
              · rw [if_pos c10] at H
                have c10b0 : (t118.toList == ([97] : List UInt8)) = true := beq_iff_eq.mpr c10
                have c10b1 : (t118.toList != ([97] : List UInt8)) = false := bne_eq_false_iff_eq.mpr c10
                clear c10
                replace H := Option.bind_eq_some_iff.mp H
                obtain ⟨t119, A110, H⟩ := H
                replace H : ((scrimref07_Same.f k t119 (([(⟨#[97]⟩ : ByteArray), (⟨#[98]⟩ : ByteArray)] : List ByteArray))).bind fun t125 => (if t125 = true then ((scan_Words.f (⟨#[32, 97, 32, 32, 98]⟩ : ByteArray)).bind fun t126 => ((scrimref07_Same.f k t126 (([(⟨#[97]⟩ : ByteArray), (⟨#[98]⟩ : ByteArray)] : List ByteArray))).bind fun t132 => (if t132 = true then ((scan_Lower.f (⟨#[97, 66]⟩ : ByteArray)).bind fun t133 => (some (t133.toList == ([97, 98] : List UInt8)))) else (some false)))) else (some false))) = some r := H
                have A11 := Aside0.mk A110
                clear A110
                obtain ⟨y122, hy122⟩ : ∃ y_ : List ByteArray, y_ = (([(⟨#[97]⟩ : ByteArray), (⟨#[98]⟩ : ByteArray)] : List ByteArray)) := ⟨_, rfl⟩
                replace H : ((scrimref07_Same.f k t119 y122).bind fun t125 => (if t125 = true then ((scan_Words.f (⟨#[32, 97, 32, 32, 98]⟩ : ByteArray)).bind fun t126 => ((scrimref07_Same.f k t126 (([(⟨#[97]⟩ : ByteArray), (⟨#[98]⟩ : ByteArray)] : List ByteArray))).bind fun t132 => (if t132 = true then ((scan_Lower.f (⟨#[97, 66]⟩ : ByteArray)).bind fun t133 => (some (t133.toList == ([97, 98] : List UInt8)))) else (some false)))) else (some false))) = some r := by first | (rw [hy122]; with_reducible exact H) | (have H2_ := (Option.bind_some _ _).symm.trans H; rw [hy122]; with_reducible exact H2_) | (have H2_ := (Option.bind_some _ _).symm.trans H; with_reducible exact H2_) | with_reducible exact H | (rw [hy122]; exact H) | exact H
                have Ny122 := Aside0.mk hy122
                clear hy122
                replace H := Option.bind_eq_some_iff.mp H
                obtain ⟨t125, A120, H⟩ := H
                replace H : (if t125 = true then ((scan_Words.f (⟨#[32, 97, 32, 32, 98]⟩ : ByteArray)).bind fun t126 => ((scrimref07_Same.f k t126 (([(⟨#[97]⟩ : ByteArray), (⟨#[98]⟩ : ByteArray)] : List ByteArray))).bind fun t132 => (if t132 = true then ((scan_Lower.f (⟨#[97, 66]⟩ : ByteArray)).bind fun t133 => (some (t133.toList == ([97, 98] : List UInt8)))) else (some false)))) else (some false)) = some r := H
                have A12 := Aside0.mk A120
                clear A120
                by_cases c13 : t125 = true
                · subst c13
                  have H1 : ((scan_Words.f (⟨#[32, 97, 32, 32, 98]⟩ : ByteArray)).bind fun t126 => ((scrimref07_Same.f k t126 (([(⟨#[97]⟩ : ByteArray), (⟨#[98]⟩ : ByteArray)] : List ByteArray))).bind fun t132 => (if t132 = true then ((scan_Lower.f (⟨#[97, 66]⟩ : ByteArray)).bind fun t133 => (some (t133.toList == ([97, 98] : List UInt8)))) else (some false)))) = some r := by rw [if_pos rfl] at H; exact H
                  clear H
                  have H := H1
                  clear H1
                  replace H := Option.bind_eq_some_iff.mp H
                  obtain ⟨t126, A140, H⟩ := H
                  replace H : ((scrimref07_Same.f k t126 (([(⟨#[97]⟩ : ByteArray), (⟨#[98]⟩ : ByteArray)] : List ByteArray))).bind fun t132 => (if t132 = true then ((scan_Lower.f (⟨#[97, 66]⟩ : ByteArray)).bind fun t133 => (some (t133.toList == ([97, 98] : List UInt8)))) else (some false))) = some r := H
                  have A14 := Aside0.mk A140
                  clear A140
                  obtain ⟨y129, hy129⟩ : ∃ y_ : List ByteArray, y_ = (([(⟨#[97]⟩ : ByteArray), (⟨#[98]⟩ : ByteArray)] : List ByteArray)) := ⟨_, rfl⟩
                  replace H : ((scrimref07_Same.f k t126 y129).bind fun t132 => (if t132 = true then ((scan_Lower.f (⟨#[97, 66]⟩ : ByteArray)).bind fun t133 => (some (t133.toList == ([97, 98] : List UInt8)))) else (some false))) = some r := by first | (rw [hy129]; with_reducible exact H) | (have H2_ := (Option.bind_some _ _).symm.trans H; rw [hy129]; with_reducible exact H2_) | (have H2_ := (Option.bind_some _ _).symm.trans H; with_reducible exact H2_) | with_reducible exact H | (rw [hy129]; exact H) | exact H
                  have Ny129 := Aside0.mk hy129
                  clear hy129
                  replace H := Option.bind_eq_some_iff.mp H
                  obtain ⟨t132, A150, H⟩ := H
                  replace H : (if t132 = true then ((scan_Lower.f (⟨#[97, 66]⟩ : ByteArray)).bind fun t133 => (some (t133.toList == ([97, 98] : List UInt8)))) else (some false)) = some r := H
                  have A15 := Aside0.mk A150
                  clear A150
                  by_cases c16 : t132 = true
                  · subst c16
                    have H1 : ((scan_Lower.f (⟨#[97, 66]⟩ : ByteArray)).bind fun t133 => (some (t133.toList == ([97, 98] : List UInt8)))) = some r := by rw [if_pos rfl] at H; exact H
                    clear H
                    have H := H1
                    clear H1
                    replace H := Option.bind_eq_some_iff.mp H
                    obtain ⟨t133, A170, H⟩ := H
                    replace H : (some (t133.toList == ([97, 98] : List UInt8))) = some r := H
                    have A17 := Aside0.mk A170
                    clear A170
                    obtain rfl := Option.some.inj H; clear hrt; try clear H
                    go_enter Tryd.func7, Tryd.ntmps7
                    go_wp2_with (first | ((with_reducible refine gate_callee (f := 8) rfl ?_); refine goesL_ (some 2) rfl rfl Tryd.func8 (by kernel_rfl) rfl #[.string (⟨#[97, 32, 123, 32, 98, 32, 125, 32, 125, 32, 99, 32, 123, 100, 125, 32, 101, 32, 123]⟩ : ByteArray)] rfl (by (try simp only [List.map_toArray, List.map_cons, List.map_nil]); first | done | rfl | (simp only [List.length_drop, List.length_take]; rfl)) ?_; (with_reducible refine (scan_Blocks.calls k (⟨#[97, 32, 123, 32, 98, 32, 125, 32, 125, 32, 99, 32, 123, 100, 125, 32, 101, 32, 123]⟩ : ByteArray) t112 _ A1.out).mono ?_); rintro e w18 ⟨v113, rfl, ho0, hb⟩; refine ⟨_, rfl, ?_⟩; have n0_ := Aside0.mk (Kd.R_lower ho0 (below_size (by repeat (first | (with_reducible first | exact HB.out | apply below_alloc | apply pw_below_drewN | apply below_drew1) | exact HB.out)))); have n1_ := Aside0.mk (below_step (by repeat (first | (with_reducible first | exact HB.out | apply below_alloc | apply pw_below_drewN | apply below_drew1) | exact HB.out)) hb); clear HB; have HO114 := n0_; have HB := n1_; clear n0_ n1_; (try clear hb); (try clear hb2); (try clear hk); (try clear hi); (try clear ho0); obtain ⟨Ao19, co19, eo19⟩ := Kd.R_slice HO114.out; subst eo19; have p115 : 0 ≤ (0 : Int) := (by omega); have q115 : 0 < (t112.length : Int) := of_decide_eq_true (by first | (with_reducible assumption) | assumption); obtain ⟨ad115, e115, hx115_0, hx115_1⟩ := at_T29 (Kd.R_reads' HO114.out).2.2 0 p115 q115; cases e115; have qi115 : (0 < t112.length) = True := eq_true (by omega); (try rw [show ((0 : Int)).toNat = 0 from rfl] at hx115_0); (try rw [show 0 * 2 = 0 from rfl] at hx115_0); (try rw [Addr.add_zero'] at hx115_0); (try rw [show ((0 : Int)).toNat = 0 from rfl] at hx115_1); (try rw [show 0 * 2 = 0 from rfl] at hx115_1); (try rw [Addr.add_zero'] at hx115_1); replace p115 := eq_true p115; replace q115 := eq_true q115; have p116 : 0 ≤ (1 : Int) := (by omega); have q116 : 1 < (t112.length : Int) := of_decide_eq_true (by first | (with_reducible assumption) | assumption); obtain ⟨ad116, e116, hx116_0, hx116_1⟩ := at_T29 (Kd.R_reads' HO114.out).2.2 1 p116 q116; obtain rfl : ad115 = ad116 := (by injection e116); (try simp only [show (1 : Int).toNat = 1 from rfl, Nat.reduceMul, Nat.reduceEqDiff, Go.Addr.add, ↓reduceIte] at hx116_0); (try simp only [show (1 : Int).toNat = 1 from rfl, Nat.reduceMul, Nat.reduceEqDiff, Go.Addr.add, ↓reduceIte] at hx116_1); have qi116 : (1 < t112.length) = True := eq_true (by omega); (try rw [show ((1 : Int)).toNat = 1 from rfl] at hx116_0); (try rw [show 1 * 2 = 2 from rfl] at hx116_0); (try rw [show ((1 : Int)).toNat = 1 from rfl] at hx116_1); (try rw [show 1 * 2 = 2 from rfl] at hx116_1); replace p116 := eq_true p116; replace q116 := eq_true q116) | (go_at_call 10; (with_reducible refine (scan_Strip.calls (⟨#[97, 47, 42, 98, 42, 47, 99, 47, 42, 100]⟩ : ByteArray) t117 _ A7.out (HMX.out.below (by repeat (first | (with_reducible first | exact HB.out | apply below_alloc | apply pw_below_drewN | apply below_drew1) | exact HB.out)))).mono ?_); rintro e w20 ⟨rfl, hb⟩; have n0_ := Aside0.mk (Kd.R_below (by (with_reducible repeat (first | apply Kd.R_alloc | apply Kd.R_drewN | apply Kd.R_drew)); exact HO114.out) hb); have n1_ := Aside0.mk (below_step (by repeat (first | (with_reducible first | exact HB.out | apply below_alloc | apply pw_below_drewN | apply below_drew1) | exact HB.out)) hb); clear HO114; clear HB; have HO114 := n0_; have HB := n1_; clear n0_ n1_; (try clear hb); (try clear hb2); (try clear hk); (try clear hi)) | (go_at_call 12; (with_reducible refine (scan_Trim.calls (⟨#[32, 97, 10]⟩ : ByteArray) t118 _ A9.out).mono ?_); rintro e w21 ⟨rfl, hb⟩; have n0_ := Aside0.mk (Kd.R_below (by (with_reducible repeat (first | apply Kd.R_alloc | apply Kd.R_drewN | apply Kd.R_drew)); exact HO114.out) hb); have n1_ := Aside0.mk (below_step (by repeat (first | (with_reducible first | exact HB.out | apply below_alloc | apply pw_below_drewN | apply below_drew1) | exact HB.out)) hb); clear HO114; clear HB; have HO114 := n0_; have HB := n1_; clear n0_ n1_; (try clear hb); (try clear hb2); (try clear hk); (try clear hi)) | (go_at_call 15; (with_reducible refine (scan_Split.calls (⟨#[97, 44, 32, 98]⟩ : ByteArray) 44 t119 _ A11.out).mono ?_); rintro e w22 ⟨v120, rfl, ho0, hb⟩; have n0_ := Aside0.mk (Kd.R_below (by (with_reducible repeat (first | apply Kd.R_alloc | apply Kd.R_drewN | apply Kd.R_drew)); exact HO114.out) hb); have n1_ := Aside0.mk (Kd.R_lower ho0 (below_size (by repeat (first | (with_reducible first | exact HB.out | apply below_alloc | apply pw_below_drewN | apply below_drew1) | exact HB.out)))); have n2_ := Aside0.mk (below_step (by repeat (first | (with_reducible first | exact HB.out | apply below_alloc | apply pw_below_drewN | apply below_drew1) | exact HB.out)) hb); clear HO114; clear HB; have HO114 := n0_; have HO121 := n1_; have HB := n2_; clear n0_ n1_ n2_; (try clear hb); (try clear hb2); (try clear hk); (try clear hi); (try clear ho0)) | ((with_reducible refine gate_dst (N := 30) rfl ?_); (try (refine gate_guard (by rfl) ?_; dsimp only)); refine Kd.R_lit Kd.string _ 9 ?hg (N := 30) ?hd (xs := ([(⟨#[97]⟩ : ByteArray), (⟨#[98]⟩ : ByteArray)] : List ByteArray)) (inner := [.string (⟨#[97]⟩ : ByteArray), .string (⟨#[98]⟩ : ByteArray)]) (ok := fun _ => True) (okp := fun _ => True) ?hr ?hp (fun _ hk => hk) trivial (Below.refl _ _) (Nat.le_refl _) (by simp) ?_; (case hd => rfl); (case hg => rfl); (case hr => first | (go_simp; done) | (go_simp; rfl)); (case hp => exact (Reps.one (show Kd.M Kd.string _ _ _ (⟨#[97]⟩ : ByteArray) [.string (⟨#[97]⟩ : ByteArray)] from rfl) (Reps.one (show Kd.M Kd.string _ _ _ (⟨#[98]⟩ : ByteArray) [.string (⟨#[98]⟩ : ByteArray)] from rfl) (Reps.none _ _)))); intro v123 w23 ho24 hb hg_ hnew_; clear hg_ hnew_; (first | rw [← Ny122.out] at ho24 | (simp only [Int.reduceToNat] at ho24; rw [← Ny122.out] at ho24)); have n0_ := Aside0.mk (Kd.R_below (by (with_reducible repeat (first | apply Kd.R_alloc | apply Kd.R_drewN | apply Kd.R_drew)); exact HO114.out) hb); have n1_ := Aside0.mk (Kd.R_elder' (by (with_reducible repeat (first | apply Kd.R_alloc | apply Kd.R_drewN | apply Kd.R_drew)); exact HO121.out) (Kd.R_base ho24) hb); have n2_ := Aside0.mk (Kd.R_lower (Kd.R_new' ho24 (Kd.R_lt (by (with_reducible repeat (first | apply Kd.R_alloc | apply Kd.R_drewN | apply Kd.R_drew)); exact HO121.out))) (below_size (by repeat (first | (with_reducible first | exact HB.out | apply below_alloc | apply pw_below_drewN | apply below_drew1) | exact HB.out)))); have n3_ := Aside0.mk (below_step (by repeat (first | (with_reducible first | exact HB.out | apply below_alloc | apply pw_below_drewN | apply below_drew1) | exact HB.out)) hb); clear HO114; clear HO121; clear HB; have HO114 := n0_; have HO121 := n1_; have HO124 := n2_; have HB := n3_; clear n0_ n1_ n2_ n3_; clear hb ho24; obtain ⟨Ao25, co25, eo25⟩ := Kd.R_slice HO121.out; subst eo25; obtain ⟨Ao26, co26, eo26⟩ := Kd.R_slice HO124.out; subst eo26) | (go_at_call 14; (with_reducible refine (scrimref07_Same.calls k _ _ t119 _ _ y122 true _ ?side1 ?side2 ?side3 ?side4 A12.out).mono ?_); (case side1 => repeat (first | exact (Kd.R_reads' HO121.out).2.2 | (with_reducible refine Kd.C_alloc ?_ _) | (with_reducible refine Kd.C_drewN ?_ _) | (with_reducible refine Kd.C_drew ?_))); (case side2 => exact (Kd.R_reads' HO121.out).2.1); (case side3 => repeat (first | exact (Kd.R_reads' HO124.out).2.2 | (with_reducible refine Kd.C_alloc ?_ _) | (with_reducible refine Kd.C_drewN ?_ _) | (with_reducible refine Kd.C_drew ?_))); (case side4 => exact (Kd.R_reads' HO124.out).2.1); rintro e w' ⟨rfl, ⟨nd, rfl⟩⟩) | (go_at_call 17; (with_reducible refine (scan_Words.calls (⟨#[32, 97, 32, 32, 98]⟩ : ByteArray) t126 _ A14.out).mono ?_); rintro e w27 ⟨v127, rfl, ho0, hb⟩; have n0_ := Aside0.mk (Kd.R_below (by (with_reducible repeat (first | apply Kd.R_alloc | apply Kd.R_drewN | apply Kd.R_drew)); exact HO114.out) hb); have n1_ := Aside0.mk (Kd.R_elder' (by (with_reducible repeat (first | apply Kd.R_alloc | apply Kd.R_drewN | apply Kd.R_drew)); exact HO121.out) (Kd.R_base ho0) hb); have n2_ := Aside0.mk (Kd.R_elder' (by (with_reducible repeat (first | apply Kd.R_alloc | apply Kd.R_drewN | apply Kd.R_drew)); exact HO124.out) (Kd.R_base ho0) hb); have n3_ := Aside0.mk (Kd.R_lower (Kd.R_new' (Kd.R_new' ho0 (Kd.R_lt (by (with_reducible repeat (first | apply Kd.R_alloc | apply Kd.R_drewN | apply Kd.R_drew)); exact HO121.out))) (Kd.R_lt (by (with_reducible repeat (first | apply Kd.R_alloc | apply Kd.R_drewN | apply Kd.R_drew)); exact HO124.out))) (below_size (by repeat (first | (with_reducible first | exact HB.out | apply below_alloc | apply pw_below_drewN | apply below_drew1) | exact HB.out)))); have n4_ := Aside0.mk (below_step (by repeat (first | (with_reducible first | exact HB.out | apply below_alloc | apply pw_below_drewN | apply below_drew1) | exact HB.out)) hb); clear HO114; clear HO121; clear HO124; clear HB; have HO114 := n0_; have HO121 := n1_; have HO124 := n2_; have HO128 := n3_; have HB := n4_; clear n0_ n1_ n2_ n3_ n4_; (try clear hb); (try clear hb2); (try clear hk); (try clear hi); (try clear ho0)) | ((with_reducible refine gate_dst (N := 35) rfl ?_); (try (refine gate_guard (by rfl) ?_; dsimp only)); refine Kd.R_lit Kd.string _ 9 ?hg (N := 35) ?hd (xs := ([(⟨#[97]⟩ : ByteArray), (⟨#[98]⟩ : ByteArray)] : List ByteArray)) (inner := [.string (⟨#[97]⟩ : ByteArray), .string (⟨#[98]⟩ : ByteArray)]) (ok := fun _ => True) (okp := fun _ => True) ?hr ?hp (fun _ hk => hk) trivial (Below.refl _ _) (Nat.le_refl _) (by simp) ?_; (case hd => rfl); (case hg => rfl); (case hr => first | (go_simp; done) | (go_simp; rfl)); (case hp => exact (Reps.one (show Kd.M Kd.string _ _ _ (⟨#[97]⟩ : ByteArray) [.string (⟨#[97]⟩ : ByteArray)] from rfl) (Reps.one (show Kd.M Kd.string _ _ _ (⟨#[98]⟩ : ByteArray) [.string (⟨#[98]⟩ : ByteArray)] from rfl) (Reps.none _ _)))); intro v130 w28 ho29 hb hg_ hnew_; clear hg_ hnew_; (first | rw [← Ny129.out] at ho29 | (simp only [Int.reduceToNat] at ho29; rw [← Ny129.out] at ho29)); have n0_ := Aside0.mk (Kd.R_below (by (with_reducible repeat (first | apply Kd.R_alloc | apply Kd.R_drewN | apply Kd.R_drew)); exact HO114.out) hb); have n1_ := Aside0.mk (Kd.R_elder' (by (with_reducible repeat (first | apply Kd.R_alloc | apply Kd.R_drewN | apply Kd.R_drew)); exact HO121.out) (Kd.R_base ho29) hb); have n2_ := Aside0.mk (Kd.R_elder' (by (with_reducible repeat (first | apply Kd.R_alloc | apply Kd.R_drewN | apply Kd.R_drew)); exact HO124.out) (Kd.R_base ho29) hb); have n3_ := Aside0.mk (Kd.R_elder' (by (with_reducible repeat (first | apply Kd.R_alloc | apply Kd.R_drewN | apply Kd.R_drew)); exact HO128.out) (Kd.R_base ho29) hb); have n4_ := Aside0.mk (Kd.R_lower (Kd.R_new' (Kd.R_new' (Kd.R_new' ho29 (Kd.R_lt (by (with_reducible repeat (first | apply Kd.R_alloc | apply Kd.R_drewN | apply Kd.R_drew)); exact HO121.out))) (Kd.R_lt (by (with_reducible repeat (first | apply Kd.R_alloc | apply Kd.R_drewN | apply Kd.R_drew)); exact HO124.out))) (Kd.R_lt (by (with_reducible repeat (first | apply Kd.R_alloc | apply Kd.R_drewN | apply Kd.R_drew)); exact HO128.out))) (below_size (by repeat (first | (with_reducible first | exact HB.out | apply below_alloc | apply pw_below_drewN | apply below_drew1) | exact HB.out)))); have n5_ := Aside0.mk (below_step (by repeat (first | (with_reducible first | exact HB.out | apply below_alloc | apply pw_below_drewN | apply below_drew1) | exact HB.out)) hb); clear HO114; clear HO121; clear HO124; clear HO128; clear HB; have HO114 := n0_; have HO121 := n1_; have HO124 := n2_; have HO128 := n3_; have HO131 := n4_; have HB := n5_; clear n0_ n1_ n2_ n3_ n4_ n5_; clear hb ho29; obtain ⟨Ao30, co30, eo30⟩ := Kd.R_slice HO128.out; subst eo30; obtain ⟨Ao31, co31, eo31⟩ := Kd.R_slice HO131.out; subst eo31) | (go_at_call 14; (with_reducible refine (scrimref07_Same.calls k _ _ t126 _ _ y129 true _ ?side1 ?side2 ?side3 ?side4 A15.out).mono ?_); (case side1 => repeat (first | exact (Kd.R_reads' HO128.out).2.2 | (with_reducible refine Kd.C_alloc ?_ _) | (with_reducible refine Kd.C_drewN ?_ _) | (with_reducible refine Kd.C_drew ?_))); (case side2 => exact (Kd.R_reads' HO128.out).2.1); (case side3 => repeat (first | exact (Kd.R_reads' HO131.out).2.2 | (with_reducible refine Kd.C_alloc ?_ _) | (with_reducible refine Kd.C_drewN ?_ _) | (with_reducible refine Kd.C_drew ?_))); (case side4 => exact (Kd.R_reads' HO131.out).2.1); rintro e w' ⟨rfl, ⟨nd, rfl⟩⟩) | (go_at_call 19; (with_reducible refine (scan_Lower.calls (⟨#[97, 66]⟩ : ByteArray) t133 _ A17.out).mono ?_); rintro e w32 ⟨rfl, hb⟩; have n0_ := Aside0.mk (Kd.R_below (by (with_reducible repeat (first | apply Kd.R_alloc | apply Kd.R_drewN | apply Kd.R_drew)); exact HO114.out) hb); have n1_ := Aside0.mk (Kd.R_below (by (with_reducible repeat (first | apply Kd.R_alloc | apply Kd.R_drewN | apply Kd.R_drew)); exact HO121.out) hb); have n2_ := Aside0.mk (Kd.R_below (by (with_reducible repeat (first | apply Kd.R_alloc | apply Kd.R_drewN | apply Kd.R_drew)); exact HO124.out) hb); have n3_ := Aside0.mk (Kd.R_below (by (with_reducible repeat (first | apply Kd.R_alloc | apply Kd.R_drewN | apply Kd.R_drew)); exact HO128.out) hb); have n4_ := Aside0.mk (Kd.R_below (by (with_reducible repeat (first | apply Kd.R_alloc | apply Kd.R_drewN | apply Kd.R_drew)); exact HO131.out) hb); have n5_ := Aside0.mk (below_step (by repeat (first | (with_reducible first | exact HB.out | apply below_alloc | apply pw_below_drewN | apply below_drew1) | exact HB.out)) hb); clear HO114; clear HO121; clear HO124; clear HO128; clear HO131; clear HB; have HO114 := n0_; have HO121 := n1_; have HO124 := n2_; have HO128 := n3_; have HO131 := n4_; have HB := n5_; clear n0_ n1_ n2_ n3_ n4_ n5_; (try clear hb); (try clear hb2); (try clear hk); (try clear hi)))
                    go_ret
                    exact ⟨by first | rfl | (simp [errW_none, errW_some] <;> rfl) | (simp [*, errW_none, errW_some] <;> rfl), by repeat (first | (with_reducible first | exact HB.out | apply below_alloc | apply pw_below_drewN | apply below_drew1) | exact HB.out)⟩
                  · replace c16 := Bool.eq_false_iff.mpr c16
                    subst c16
                    have H1 : (some false) = some r := by rw [if_neg (show ¬ (false = true) by decide)] at H; exact H
                    clear H
                    have H := H1
                    clear H1
                    exact absurd ((Option.some.inj H).trans hrt) (by decide)
                · replace c13 := Bool.eq_false_iff.mpr c13
                  subst c13
                  have H1 : (some false) = some r := by rw [if_neg (show ¬ (false = true) by decide)] at H; exact H
                  clear H
                  have H := H1
                  clear H1
                  exact absurd ((Option.some.inj H).trans hrt) (by decide)
              · rw [if_neg c10] at H
                have c10b0 : (t118.toList == ([97] : List UInt8)) = false := beq_eq_false_iff_ne.mpr c10
                have c10b1 : (t118.toList != ([97] : List UInt8)) = true := bne_iff_ne.mpr c10
                exact absurd ((Option.some.inj H).trans hrt) (by decide)
            · rw [if_neg c8] at H
              have c8b0 : (t117.toList == ([97, 32, 99, 32] : List UInt8)) = false := beq_eq_false_iff_ne.mpr c8
              have c8b1 : (t117.toList != ([97, 32, 99, 32] : List UInt8)) = true := bne_iff_ne.mpr c8
              exact absurd ((Option.some.inj H).trans hrt) (by decide)
          · rw [if_neg c6] at H
            have c6b0 : ((((rd_T29 t112 1).f0).toList) == ([99] : List UInt8) && ((((rd_T29 t112 1).f1).toList) == ([100] : List UInt8))) = false := by simpa using c6
            (try (have c6b1 : decide ((((rd_T29 t112 1).f0).toList) = ([99] : List UInt8) && ((((rd_T29 t112 1).f1).toList) == ([100] : List UInt8))) = false := by simpa using c6))
            (try (have c6b2 : ((((rd_T29 t112 1).f0).toList) == ([99] : List UInt8) && ((((rd_T29 t112 1).f1).toList) == ([100] : List UInt8))) = false := by simpa using c6))
            (try (have c6b3 : ¬ ((((rd_T29 t112 1).f0).toList) = ([99] : List UInt8) && ((((rd_T29 t112 1).f1).toList) == ([100] : List UInt8))) := by simpa using c6))
            clear c6
            exact absurd ((Option.some.inj H).trans hrt) (by decide)
        · rw [if_neg c5] at H
          exact absurd H (by simp)
      · rw [if_neg c4] at H
        have c4b0 : ((((rd_T29 t112 0).f0).toList) == ([97] : List UInt8) && ((((rd_T29 t112 0).f1).toList) == ([98] : List UInt8))) = false := by simpa using c4
        (try (have c4b1 : decide ((((rd_T29 t112 0).f0).toList) = ([97] : List UInt8) && ((((rd_T29 t112 0).f1).toList) == ([98] : List UInt8))) = false := by simpa using c4))
        (try (have c4b2 : ((((rd_T29 t112 0).f0).toList) == ([97] : List UInt8) && ((((rd_T29 t112 0).f1).toList) == ([98] : List UInt8))) = false := by simpa using c4))
        (try (have c4b3 : ¬ ((((rd_T29 t112 0).f0).toList) = ([97] : List UInt8) && ((((rd_T29 t112 0).f1).toList) == ([98] : List UInt8))) := by simpa using c4))
        clear c4
        exact absurd ((Option.some.inj H).trans hrt) (by decide)
    · rw [if_neg c3] at H
      exact absurd H (by simp)
  · rw [if_neg c2] at H
    have c2b0 : ((t112.length : Int) == 2) = false := beq_eq_false_iff_ne.mpr c2
    have c2b1 : ((t112.length : Int) != 2) = true := bne_iff_ne.mpr c2
    exact absurd ((Option.some.inj H).trans hrt) (by decide)

/-! ### scrimref07_Blank: function 28 -/
def scrimref07_Blank.f (a0 : Int) : Option (Bool) := if a0 = 32 then (some true) else (if a0 = 9 then (some true) else (if a0 = 10 then (some true) else (some (a0 == 13))))
set_option maxHeartbeats 8000000 in
set_option maxRecDepth 100000 in
theorem scrimref07_Blank.calls (a0 : Int) (r : Bool) (w : World) (h : scrimref07_Blank.f a0 = some r) :
    Calls Tryd.prog 28 #[.int .u8 a0] w fun e w' => e = .returned (.bool r) ∧ Drawn0 w w' := by
  have H : (if a0 = 32 then (some true) else (if a0 = 9 then (some true) else (if a0 = 10 then (some true) else (some (a0 == 13))))) = some r := h
  clear h
  by_cases c2 : a0 = 32
  · rw [if_pos c2] at H
    have c2b0 : (a0 == 32) = true := beq_iff_eq.mpr c2
    have c2b1 : (a0 != 32) = false := bne_eq_false_iff_eq.mpr c2
    clear c2
    obtain rfl := Option.some.inj H
    go_enter Tryd.func28, Tryd.ntmps28
    go_wp2
    go_ret
    exact ⟨by first | rfl | (simp; done) | (simp [*]; done), by repeat (first | exact Drawn0.refl _ | apply Drawn0.step)⟩
  · rw [if_neg c2] at H
    have c2b0 : (a0 == 32) = false := beq_eq_false_iff_ne.mpr c2
    have c2b1 : (a0 != 32) = true := bne_iff_ne.mpr c2
    by_cases c3 : a0 = 9
    · rw [if_pos c3] at H
      have c3b0 : (a0 == 9) = true := beq_iff_eq.mpr c3
      have c3b1 : (a0 != 9) = false := bne_eq_false_iff_eq.mpr c3
      clear c3
      obtain rfl := Option.some.inj H
      go_enter Tryd.func28, Tryd.ntmps28
      go_wp2
      go_ret
      exact ⟨by first | rfl | (simp; done) | (simp [*]; done), by repeat (first | exact Drawn0.refl _ | apply Drawn0.step)⟩
    · rw [if_neg c3] at H
      have c3b0 : (a0 == 9) = false := beq_eq_false_iff_ne.mpr c3
      have c3b1 : (a0 != 9) = true := bne_iff_ne.mpr c3
      by_cases c4 : a0 = 10
      · rw [if_pos c4] at H
        have c4b0 : (a0 == 10) = true := beq_iff_eq.mpr c4
        have c4b1 : (a0 != 10) = false := bne_eq_false_iff_eq.mpr c4
        clear c4
        obtain rfl := Option.some.inj H
        go_enter Tryd.func28, Tryd.ntmps28
        go_wp2
        go_ret
        exact ⟨by first | rfl | (simp; done) | (simp [*]; done), by repeat (first | exact Drawn0.refl _ | apply Drawn0.step)⟩
      · rw [if_neg c4] at H
        have c4b0 : (a0 == 10) = false := beq_eq_false_iff_ne.mpr c4
        have c4b1 : (a0 != 10) = true := bne_iff_ne.mpr c4
        obtain rfl := Option.some.inj H
        go_enter Tryd.func28, Tryd.ntmps28
        go_wp2
        go_ret
        exact ⟨by first | rfl | (simp; done) | (simp [*]; done), by repeat (first | exact Drawn0.refl _ | apply Drawn0.step)⟩

end Go.Proofs.YtdifaomkaekglaaDoor.HS
