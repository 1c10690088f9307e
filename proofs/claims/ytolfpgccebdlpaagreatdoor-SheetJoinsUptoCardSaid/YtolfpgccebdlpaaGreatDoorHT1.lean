/- Contracts proved by walking their text; no condition beside those that each theorem states. -/
import Derived.Test.YtolfpgccebdlpaaGreatDoorHT0
import Derived.Test.YtolfpgccebdlpaaGreatDoorHT4
namespace Go.Proofs.YtolfpgccebdlpaaGreatDoor.HT
open Go.RowKit Go.Proofs.YtolfpgccebdlpaaGreatDoorW.PrintWords Go.Proofs.YtolfpgccebdlpaaGreatDoorW.PrintLast Go.Proofs.YtolfpgccebdlpaaGreatDoorW.PrintMore
attribute [local go_sem] max2_int min2_int max_two min_two max_three min_three max_four min_four   -- for this text's walks alone
set_option linter.unusedVariables false
set_option linter.unusedSimpArgs false

theorem eqA109 (d : Nat) (w : World) (x0 y0 : Int) (x1 y1 : Int) :
    (Op.equalIn (d + 2) 109 (.agg #[.int .i64 x0, .int .i64 x1]) (.agg #[.int .i64 y0, .int .i64 y1])).run Tryz.prog w = .ok (x0 == y0 && (x1 == y1)) w := by
  refine eqA_of Tryz.underlying109 (by kernel_rfl) ?_
  refine eqf_cons (by rfl) (by go_simp; rfl) (by go_simp; rfl) (by go_simp) ?_
  exact eqf_last (by rfl) (by go_simp; rfl) (by go_simp; rfl) (by go_simp)
theorem eqA123 (d : Nat) (w : World) (x0 y0 : Int) (x1 y1 : Int) (x2 y2 : Int) (x3 y3 : Bool) :
    (Op.equalIn (d + 3) 123 (.agg #[.int .i64 x0, .int .i64 x1, .int .i64 x2, .bool x3]) (.agg #[.int .i64 y0, .int .i64 y1, .int .i64 y2, .bool y3])).run Tryz.prog w = .ok (x0 == y0 && ((x1 == y1 && (x2 == y2)) && (x3 == y3))) w := by
  refine eqA_of Tryz.underlying123 (by kernel_rfl) ?_
  refine eqf_cons (by rfl) (by go_simp; rfl) (by go_simp; rfl) (by go_simp) ?_
  refine eqf_cons (by rfl) (by go_simp) (by go_simp) (eqA109 (d + 0) w _ _ _ _) ?_
  exact eqf_last (by rfl) (by go_simp; rfl) (by go_simp; rfl) (by go_simp)
end Go.Proofs.YtolfpgccebdlpaaGreatDoor.HT
namespace Go.Proofs.YtolfpgccebdlpaaGreatDoor.HT
open Go.RowKit Go.Proofs.YtolfpgccebdlpaaGreatDoorW.PrintWords Go.Proofs.YtolfpgccebdlpaaGreatDoorW.PrintLast Go.Proofs.YtolfpgccebdlpaaGreatDoorW.PrintMore
attribute [local go_sem] max2_int min2_int max_two min_two max_three min_three max_four min_four   -- for this text's walks alone
set_option linter.unusedVariables false
set_option linter.unusedSimpArgs false

attribute [local go_sem high] eqA123
/-! ### scan_Blocks: function 64 -/
def scan_Blocks.l0 : Nat → ByteArray → List (S119) → Option ((List (S119)))
 | 0, _, _ => none
 | k + 1, x0, x3 => (strings_IndexAny.f x0 (⟨#[123, 125]⟩ : ByteArray)).bind fun t183 => (if t183 < 0 then (some x3) else (if 0 ≤ t183 then (if t183 < (x0.size : Int) then (if (bt x0 t183) = 125 then (if 0 ≤ (wrap64 (t183 + 1)) then (if (wrap64 (t183 + 1)) ≤ (x0.size : Int) then (scan_Blocks.l0 k (x0.extract ((wrap64 (t183 + 1)) : Int).toNat x0.size) x3) else (none)) else (none)) else (if 0 ≤ (wrap64 (t183 + 1)) then (if (wrap64 (t183 + 1)) ≤ (x0.size : Int) then ((strings_Cut.f (x0.extract ((wrap64 (t183 + 1)) : Int).toNat x0.size) (⟨#[125]⟩ : ByteArray)).bind fun bt184 => (if bt184.2.2 = true then (if t183 ≤ (x0.size : Int) then ((scan_Trim.f (x0.extract 0 (t183 : Int).toNat)).bind fun t187 => ((scan_Trim.f bt184.1).bind fun t188 => (if x3.length < 4398046511104 then (scan_Blocks.l0 k bt184.2.1 (x3 ++ [(⟨t187, t188⟩ : S119)])) else (none)))) else (none)) else (some x3))) else (none)) else (none))) else (none)) else (none)))
def scan_Blocks.f (k : Nat) (a0 : ByteArray) : Option ((List (S119))) := scan_Blocks.l0 k a0 ([] : List (S119))
theorem scan_Blocks.mono_l : ∀ k, (∀ y0 y1, LeO (scan_Blocks.l0 k y0 y1) (scan_Blocks.l0 (k + 1) y0 y1))
 | 0 => fun _ _ r h => by simp [scan_Blocks.l0] at h
 | k + 1 => by
  have ih0 := scan_Blocks.mono_l k
  ·intro y0 y1
   unfold scan_Blocks.l0
   repeat' first
   | (with_reducible exact ih0 _ _)
   | (with_reducible exact LeO.refl _)
   | (with_reducible exact LeO.none _)
   | (with_reducible refine LeO.ite ?_ ?_)
   | (with_reducible refine LeO.bind ?_ (fun _ => ?_))
   | exact ih0 _ _
   | exact LeO.none _
   | refine LeO.ite ?_ ?_
   | refine LeO.bind ?_ (fun _ => ?_)
theorem scan_Blocks.mono : ∀ a0 k, LeO (scan_Blocks.f k a0) (scan_Blocks.f (k + 1) a0) := by
 intro a0 k
 have ih0 := scan_Blocks.mono_l k
 unfold scan_Blocks.f
 repeat' first
   | (with_reducible exact ih0 _ _)
   | (with_reducible exact LeO.refl _)
   | (with_reducible exact LeO.none _)
   | (with_reducible refine LeO.ite ?_ ?_)
   | (with_reducible refine LeO.bind ?_ (fun _ => ?_))
   | exact ih0 _ _
   | exact LeO.none _
   | refine LeO.ite ?_ ?_
   | refine LeO.bind ?_ (fun _ => ?_)
set_option maxHeartbeats 8000000 in
set_option maxRecDepth 100000 in
theorem scan_Blocks.calls (k : Nat) (a0 : ByteArray) (r : List (S119)) (w : World) (h : scan_Blocks.f k a0 = some r) :
  Calls Tryz.prog 64 #[.string a0] w fun e w' => ∃ v0_ : Value, e = .returned (v0_) ∧ Kd.R k119 119 w' w.heap.size (fun _ => True) v0_ r ∧ Below w.heap.size w w' := by
 have hu119 := Tryz.underlying119
 have HB := Aside0.mk (Below.refl w.heap.size w)
 have H : (scan_Blocks.l0 k a0 ([] : List (S119))) = some r := h
 clear h
 have H' := Aside0.mk H
 clear H
 go_enter Tryz.func64, Tryz.ntmps64
 go_wp2
 go_loopg [0, 3] k (fun kq v0 v3 w' => ∃ (x0_1 : ByteArray) (x3_1 : List (S119)), v0 = .string x0_1 ∧ Aside0 (scan_Blocks.l0 kq x0_1 x3_1 = some r) ∧ Aside0 (kq ≤ k) ∧ Aside0 (Kd.R k119 119 w' w.heap.size (fun _ => True) v3 x3_1) ∧ Aside0 (Below w.heap.size w w'))
 case atStart => exact ⟨(a0), (([] : List (S119))), (by first | rfl), H', ⟨Nat.le_refl _⟩, ⟨by exact Kd.R_nil _ _ _ _ _⟩, ⟨by exact HB.out⟩⟩
 case round =>
  clear H'
  obtain ⟨x0_1, x3_1, rfl, HA, HK1, HO_3, HB⟩ := hrel
  cases gk with
  | zero => exact absurd HA.out (by simp [scan_Blocks.l0])
  | succ k1 =>
   have H := HA.out
   clear HA
   simp only [scan_Blocks.l0] at H
   replace H := Option.bind_eq_some_iff.mp H
   obtain ⟨t183, A20, H⟩ := H
   replace H : (if t183 < 0 then (some x3_1) else (if 0 ≤ t183 then (if t183 < (x0_1.size : Int) then (if (bt x0_1 t183) = 125 then (if 0 ≤ (wrap64 (t183 + 1)) then (if (wrap64 (t183 + 1)) ≤ (x0_1.size : Int) then (scan_Blocks.l0 k1 (x0_1.extract ((wrap64 (t183 + 1)) : Int).toNat x0_1.size) x3_1) else (none)) else (none)) else (if 0 ≤ (wrap64 (t183 + 1)) then (if (wrap64 (t183 + 1)) ≤ (x0_1.size : Int) then ((strings_Cut.f (x0_1.extract ((wrap64 (t183 + 1)) : Int).toNat x0_1.size) (⟨#[125]⟩ : ByteArray)).bind fun bt184 => (if bt184.2.2 = true then (if t183 ≤ (x0_1.size : Int) then ((scan_Trim.f (x0_1.extract 0 (t183 : Int).toNat)).bind fun t187 => ((scan_Trim.f bt184.1).bind fun t188 => (if x3_1.length < 4398046511104 then (scan_Blocks.l0 k1 bt184.2.1 (x3_1 ++ [(⟨t187, t188⟩ : S119)])) else (none)))) else (none)) else (some x3_1))) else (none)) else (none))) else (none)) else (none))) = some r := H
   have A2 := Aside0.mk A20
   clear A20
   by_cases c3 : t183 < 0
   ·rw [if_pos c3] at H
    have c3b0 : decide (t183 < 0) = true := decide_eq_true c3
    clear c3
    obtain rfl := Option.some.inj H
    go_wp2_with (first | ((with_reducible refine gate_callee (f := 101) rfl ?_); refine goesL_ (some 9) rfl rfl Tryz.func101 (by kernel_rfl) rfl #[.string x0_1, .string (⟨#[123, 125]⟩ : ByteArray)] rfl (by (try simp only [List.map_toArray, List.map_cons, List.map_nil]); first | rfl) ?_; (with_reducible refine (strings_IndexAny.calls x0_1 (⟨#[123, 125]⟩ : ByteArray) t183 _ A2.out).mono ?_); rintro e w4 ⟨rfl, hb⟩; refine ⟨_, rfl, ?_⟩; have n0_ := Aside0.mk (Kd.R_below HO_3.out hb); have n1_ := Aside0.mk (below_step HB.out hb); clear HO_3; clear HB; have HO_3 := n0_; have HB := n1_; clear n0_ n1_; (try clear hb); (try clear hb2); (try clear hk); (try clear hi)))
    go_ret
    exact ⟨_, by first | rfl, by exact HO_3.out, by exact HB.out⟩
   ·rw [if_neg c3] at H
    have c3b0 : decide (t183 < 0) = false := decide_eq_false c3
    clear c3
    by_cases c5 : 0 ≤ t183
    ·rw [if_pos c5] at H
     have c5b0 : decide (0 ≤ t183) = true := decide_eq_true c5
     clear c5
     by_cases c6 : t183 < (x0_1.size : Int)
     ·rw [if_pos c6] at H
      have c6b0 : decide (t183 < (x0_1.size : Int)) = true := decide_eq_true c6
      clear c6
      by_cases c8 : (bt x0_1 t183) = 125
      ·rw [if_pos c8] at H
       have c8b0 : ((bt x0_1 t183) == 125) = true := beq_iff_eq.mpr c8
       have c8b1 : ((bt x0_1 t183) != 125) = false := bne_eq_false_iff_eq.mpr c8
       clear c8
       obtain ⟨ji9, hji9⟩ : ∃ j_ : Int, (wrap64 (t183 + 1)) = j_ := ⟨_, rfl⟩
       replace H : (if 0 ≤ (ji9) then (if (ji9) ≤ (x0_1.size : Int) then (scan_Blocks.l0 k1 (x0_1.extract ((ji9) : Int).toNat x0_1.size) x3_1) else (none)) else (none)) = some r := by first | (rw [hji9] at H; exact H)
       (try rw [hji9] at A2)
       have hji9w : (IntKind.i64.wrap (t183 + 1)) = ji9 := (i64_w _).trans hji9
       by_cases c10 : 0 ≤ (ji9)
       ·rw [if_pos c10] at H
        have c10b0 := eq_true c10
        have c10b1 : decide (0 ≤ (ji9)) = true := decide_eq_true c10
        clear c10
        by_cases c11 : (ji9) ≤ (x0_1.size : Int)
        ·rw [if_pos c11] at H
         have c11b0 := eq_true c11
         have c11b1 : decide ((ji9) ≤ (x0_1.size : Int)) = true := decide_eq_true c11
         clear c11
         have H' := Aside0.mk H
         clear H
         go_wp2_with (first | ((with_reducible refine gate_callee (f := 101) rfl ?_); refine goesL_ (some 9) rfl rfl Tryz.func101 (by kernel_rfl) rfl #[.string x0_1, .string (⟨#[123, 125]⟩ : ByteArray)] rfl (by (try simp only [List.map_toArray, List.map_cons, List.map_nil]); first | rfl) ?_; (with_reducible refine (strings_IndexAny.calls x0_1 (⟨#[123, 125]⟩ : ByteArray) t183 _ A2.out).mono ?_); rintro e w12 ⟨rfl, hb⟩; refine ⟨_, rfl, ?_⟩; have n0_ := Aside0.mk (Kd.R_below HO_3.out hb); have n1_ := Aside0.mk (below_step HB.out hb); clear HO_3; clear HB; have HO_3 := n0_; have HB := n1_; clear n0_ n1_; (try clear hb); (try clear hb2); (try clear hk); (try clear hi); have p7 : 0 ≤ (t183 : Int) := of_decide_eq_true (by first | (with_reducible assumption)); have q7 : t183 < (x0_1.size : Int) := of_decide_eq_true (by first | (with_reducible assumption)); have hx7 := bt_at x0_1 t183; replace p7 := eq_true p7; replace q7 := eq_true q7))
         go_roundg k1
         case measure => have := HK1.out; omega
         case rel => exact ⟨(x0_1.extract ((ji9) : Int).toNat x0_1.size), (x3_1), (by first | rfl), H', ⟨by have := HK1.out; omega⟩, ⟨by exact HO_3.out⟩, ⟨by exact HB.out⟩⟩
        ·rw [if_neg c11] at H
         exact absurd H (by simp)
       ·rw [if_neg c10] at H
        exact absurd H (by simp)
      ·rw [if_neg c8] at H
       have c8b0 : ((bt x0_1 t183) == 125) = false := beq_eq_false_iff_ne.mpr c8
       have c8b1 : ((bt x0_1 t183) != 125) = true := bne_iff_ne.mpr c8
       obtain ⟨ji13, hji13⟩ : ∃ j_ : Int, (wrap64 (t183 + 1)) = j_ := ⟨_, rfl⟩
       replace H : (if 0 ≤ (ji13) then (if (ji13) ≤ (x0_1.size : Int) then ((strings_Cut.f (x0_1.extract ((ji13) : Int).toNat x0_1.size) (⟨#[125]⟩ : ByteArray)).bind fun bt184 => (if bt184.2.2 = true then (if t183 ≤ (x0_1.size : Int) then ((scan_Trim.f (x0_1.extract 0 (t183 : Int).toNat)).bind fun t187 => ((scan_Trim.f bt184.1).bind fun t188 => (if x3_1.length < 4398046511104 then (scan_Blocks.l0 k1 bt184.2.1 (x3_1 ++ [(⟨t187, t188⟩ : S119)])) else (none)))) else (none)) else (some x3_1))) else (none)) else (none)) = some r := by first | (rw [hji13] at H; exact H)
       (try rw [hji13] at A2)
       have hji13w : (IntKind.i64.wrap (t183 + 1)) = ji13 := (i64_w _).trans hji13
       by_cases c14 : 0 ≤ (ji13)
       ·rw [if_pos c14] at H
        have c14b0 := eq_true c14
        have c14b1 : decide (0 ≤ (ji13)) = true := decide_eq_true c14
        clear c14
        by_cases c15 : (ji13) ≤ (x0_1.size : Int)
        ·rw [if_pos c15] at H
         have c15b0 := eq_true c15
         have c15b1 : decide ((ji13) ≤ (x0_1.size : Int)) = true := decide_eq_true c15
         clear c15
         replace H := Option.bind_eq_some_iff.mp H
         obtain ⟨⟨t184, t185, t186⟩, A160, H⟩ := H
         replace H : (if t186 = true then (if t183 ≤ (x0_1.size : Int) then ((scan_Trim.f (x0_1.extract 0 (t183 : Int).toNat)).bind fun t187 => ((scan_Trim.f t184).bind fun t188 => (if x3_1.length < 4398046511104 then (scan_Blocks.l0 k1 t185 (x3_1 ++ [(⟨t187, t188⟩ : S119)])) else (none)))) else (none)) else (some x3_1)) = some r := H
         have A16 := Aside0.mk A160
         clear A160
         by_cases c17 : t186 = true
         ·subst c17
          have H1 : (if t183 ≤ (x0_1.size : Int) then ((scan_Trim.f (x0_1.extract 0 (t183 : Int).toNat)).bind fun t187 => ((scan_Trim.f t184).bind fun t188 => (if x3_1.length < 4398046511104 then (scan_Blocks.l0 k1 t185 (x3_1 ++ [(⟨t187, t188⟩ : S119)])) else (none)))) else (none)) = some r := by rw [if_pos rfl] at H; exact H
          clear H
          have H := H1
          clear H1
          have c18b0 := eq_true (of_decide_eq_true (by first | (with_reducible assumption)) : 0 ≤ t183)
          by_cases c19 : t183 ≤ (x0_1.size : Int)
          ·rw [if_pos c19] at H
           have c19b0 := eq_true c19
           have c19b1 : decide (t183 ≤ (x0_1.size : Int)) = true := decide_eq_true c19
           clear c19
           replace H := Option.bind_eq_some_iff.mp H
           obtain ⟨t187, A200, H⟩ := H
           replace H : ((scan_Trim.f t184).bind fun t188 => (if x3_1.length < 4398046511104 then (scan_Blocks.l0 k1 t185 (x3_1 ++ [(⟨t187, t188⟩ : S119)])) else (none))) = some r := H
           have A20 := Aside0.mk A200
           clear A200
           replace H := Option.bind_eq_some_iff.mp H
           obtain ⟨t188, A210, H⟩ := H
           replace H : (if x3_1.length < 4398046511104 then (scan_Blocks.l0 k1 t185 (x3_1 ++ [(⟨t187, t188⟩ : S119)])) else (none)) = some r := H
           have A21 := Aside0.mk A210
           clear A210
           by_cases c22 : x3_1.length < 4398046511104
           ·rw [if_pos c22] at H
            have LMc22 := Aside0.mk c22
            clear c22
            obtain ⟨y189, hy189⟩ : ∃ y_ : List (S119), y_ = (x3_1 ++ [(⟨t187, t188⟩ : S119)]) := ⟨_, rfl⟩
            replace H : (scan_Blocks.l0 k1 t185 y189) = some r := by first | (rw [hy189]; with_reducible exact H)
            have Ny189 := Aside0.mk hy189
            clear hy189
            have H' := Aside0.mk H
            clear H
            go_wp2_with (first | ((with_reducible refine gate_callee (f := 101) rfl ?_); refine goesL_ (some 9) rfl rfl Tryz.func101 (by kernel_rfl) rfl #[.string x0_1, .string (⟨#[123, 125]⟩ : ByteArray)] rfl (by (try simp only [List.map_toArray, List.map_cons, List.map_nil]); first | rfl) ?_; (with_reducible refine (strings_IndexAny.calls x0_1 (⟨#[123, 125]⟩ : ByteArray) t183 _ A2.out).mono ?_); rintro e w23 ⟨rfl, hb⟩; refine ⟨_, rfl, ?_⟩; have n0_ := Aside0.mk (Kd.R_below HO_3.out hb); have n1_ := Aside0.mk (below_step HB.out hb); clear HO_3; clear HB; have HO_3 := n0_; have HB := n1_; clear n0_ n1_; (try clear hb); (try clear hb2); (try clear hk); (try clear hi); have p7 : 0 ≤ (t183 : Int) := of_decide_eq_true (by first | (with_reducible assumption)); have q7 : t183 < (x0_1.size : Int) := of_decide_eq_true (by first | (with_reducible assumption)); have hx7 := bt_at x0_1 t183; replace p7 := eq_true p7; replace q7 := eq_true q7) | ((with_reducible refine gate_callee (f := 102) rfl ?_); refine goesL_ (some 26) rfl rfl Tryz.func102 (by kernel_rfl) rfl #[.string (x0_1.extract ((ji13) : Int).toNat x0_1.size), .string (⟨#[125]⟩ : ByteArray)] rfl (by (try simp only [List.map_toArray, List.map_cons, List.map_nil]); first | rfl) ?_; (with_reducible refine (strings_Cut.calls (x0_1.extract ((ji13) : Int).toNat x0_1.size) (⟨#[125]⟩ : ByteArray) t184 t185 true _ A16.out).mono ?_); rintro e w' ⟨rfl, ⟨nd, rfl⟩⟩; refine ⟨_, rfl, ?_⟩) | ((with_reducible refine gate_callee (f := 91) rfl ?_); refine goesL_ (some 37) rfl rfl Tryz.func91 (by kernel_rfl) rfl #[.string (x0_1.extract 0 (t183 : Int).toNat)] rfl (by (try simp only [List.map_toArray, List.map_cons, List.map_nil]); first | rfl) ?_; (with_reducible refine (scan_Trim.calls (x0_1.extract 0 (t183 : Int).toNat) t187 _ A20.out).mono ?_); rintro e w24 ⟨rfl, hb⟩; refine ⟨_, rfl, ?_⟩; have n0_ := Aside0.mk (Kd.R_below (by (with_reducible repeat (first | apply Kd.R_drewN)); exact HO_3.out) hb); have n1_ := Aside0.mk (below_step (by repeat (with_reducible first | exact HB.out | apply pw_below_drewN)) hb); clear HO_3; clear HB; have HO_3 := n0_; have HB := n1_; clear n0_ n1_; (try clear hb); (try clear hb2); (try clear hk); (try clear hi)) | ((with_reducible refine gate_callee (f := 91) rfl ?_); refine goesL_ (some 39) rfl rfl Tryz.func91 (by kernel_rfl) rfl #[.string t184] rfl (by (try simp only [List.map_toArray, List.map_cons, List.map_nil]); first | rfl) ?_; (with_reducible refine (scan_Trim.calls t184 t188 _ A21.out).mono ?_); rintro e w25 ⟨rfl, hb⟩; refine ⟨_, rfl, ?_⟩; have n0_ := Aside0.mk (Kd.R_below HO_3.out hb); have n1_ := Aside0.mk (below_step HB.out hb); clear HO_3; clear HB; have HO_3 := n0_; have HB := n1_; clear n0_ n1_; (try clear hb); (try clear hb2); (try clear hk); (try clear hi)) | ((with_reducible refine gate_builtin (b := .append) (xs := #[.tmp 33, .tmp 41]) rfl ?_); at_builtin; refine Kd.R_append k119 (w0 := w) w.heap.size rfl (.tmp 33) (.tmp 41) 116 119 (.agg #[(.string ⟨#[]⟩), (.string ⟨#[]⟩)]) 32 rfl Tryz.underlying116 info119 rfl (by decide) (by omega) u3 x3_1 (⟨t187, t188⟩ : S119) [.string t187, .string t188] (fun _ => True) (fun _ => False) rfl rfl ?aP (fun _ hk => hk.elim) ?aF ?aO ?aB ?aS ?aL ?_; (case aP => exact k119_mkM _ _ _ (⟨t187, t188⟩ : S119)); (case aB => exact HB.out); (case aF => exact (fun _ _ => trivial)); (case aO => exact HO_3.out); (case aS => exact (below_size HB.out)); (case aL => have := LMc22.out; omega); intro v190 w26 ho hb hg hat; rw [← Ny189.out] at ho; have n0_ := Aside0.mk (hb); have n1_ := Aside0.mk (ho); clear HB; clear HO_3; have HB := n0_; have HO191 := n1_; clear n0_ n1_; clear ho hb hg hat))
            go_roundg k1
            case measure => have := HK1.out; omega
            case rel => exact ⟨(t185), (y189), (by first | rfl), H', ⟨by have := HK1.out; omega⟩, ⟨by exact HO191.out⟩, ⟨by exact HB.out⟩⟩
           ·rw [if_neg c22] at H
            exact absurd H (by simp)
          ·rw [if_neg c19] at H
           exact absurd H (by simp)
         ·replace c17 := Bool.eq_false_iff.mpr c17
          subst c17
          have H1 : (some x3_1) = some r := by rw [if_neg (show ¬ (false = true) by decide)] at H; exact H
          clear H
          have H := H1
          clear H1
          obtain rfl := Option.some.inj H
          go_wp2_with (first | ((with_reducible refine gate_callee (f := 101) rfl ?_); refine goesL_ (some 9) rfl rfl Tryz.func101 (by kernel_rfl) rfl #[.string x0_1, .string (⟨#[123, 125]⟩ : ByteArray)] rfl (by (try simp only [List.map_toArray, List.map_cons, List.map_nil]); first | rfl) ?_; (with_reducible refine (strings_IndexAny.calls x0_1 (⟨#[123, 125]⟩ : ByteArray) t183 _ A2.out).mono ?_); rintro e w27 ⟨rfl, hb⟩; refine ⟨_, rfl, ?_⟩; have n0_ := Aside0.mk (Kd.R_below HO_3.out hb); have n1_ := Aside0.mk (below_step HB.out hb); clear HO_3; clear HB; have HO_3 := n0_; have HB := n1_; clear n0_ n1_; (try clear hb); (try clear hb2); (try clear hk); (try clear hi); have p7 : 0 ≤ (t183 : Int) := of_decide_eq_true (by first | (with_reducible assumption)); have q7 : t183 < (x0_1.size : Int) := of_decide_eq_true (by first | (with_reducible assumption)); have hx7 := bt_at x0_1 t183; replace p7 := eq_true p7; replace q7 := eq_true q7) | ((with_reducible refine gate_callee (f := 102) rfl ?_); refine goesL_ (some 26) rfl rfl Tryz.func102 (by kernel_rfl) rfl #[.string (x0_1.extract ((ji13) : Int).toNat x0_1.size), .string (⟨#[125]⟩ : ByteArray)] rfl (by (try simp only [List.map_toArray, List.map_cons, List.map_nil]); first | rfl) ?_; (with_reducible refine (strings_Cut.calls (x0_1.extract ((ji13) : Int).toNat x0_1.size) (⟨#[125]⟩ : ByteArray) t184 t185 false _ A16.out).mono ?_); rintro e w' ⟨rfl, ⟨nd, rfl⟩⟩; refine ⟨_, rfl, ?_⟩))
          go_ret
          exact ⟨_, by first | rfl, by (with_reducible repeat (first | apply Kd.R_drewN)); exact HO_3.out, by repeat (with_reducible first | exact HB.out | apply pw_below_drewN)⟩
        ·rw [if_neg c15] at H
         exact absurd H (by simp)
       ·rw [if_neg c14] at H
        exact absurd H (by simp)
     ·rw [if_neg c6] at H
      exact absurd H (by simp)
    ·rw [if_neg c5] at H
     exact absurd H (by simp)

/-! ### scan_Strip: function 65 (by hand) -/
def scan_Strip.f (a0 : ByteArray) : Option ByteArray := if a0.size < 4294967281 then some (Go.Proofs.Scn.stripV a0) else none
theorem scan_Strip.calls (a0 : ByteArray) (r : ByteArray) (w : World) (h : scan_Strip.f a0 = some r) (hmx : Go.Proofs.Sht.Env w) :
  Calls Tryz.prog 65 #[.string a0] w fun e w' => e = .returned (.string r) ∧ Below w.heap.size w w' := by
 unfold scan_Strip.f at h
 by_cases h1 : a0.size < 4294967281
 ·rw [if_pos h1] at h
  cases h
  exact Go.Proofs.Scn.strip_any a0 w h1 hmx.1
 ·rw [if_neg h1] at h; cases h


/-! ### sheet_Read: function 27 -/
def sheet_Read.l0 : Nat → List (S115) → List (S119) → Int → Int → Option ((List (S115)) × Int)
 | 0, _, _, _, _ => none
 | k + 1, x4, x14, x15, x16 => if x16 < x15 then (if 0 ≤ x16 then (if x16 < (x14.length : Int) then ((selector_List.f k ((rd_T119 x14 x16).f0)).bind fun bt198 => (if bt198.2 = true then ((sheet_Decls.f k ((rd_T119 x14 x16).f1)).bind fun t202 => (if x4.length < 2932031007402 then (sheet_Read.l0 k (x4 ++ [(⟨bt198.1, t202⟩ : S115)]) x14 x15 (wrap64 (x16 + 1))) else (none))) else (sheet_Read.l0 k x4 x14 x15 (wrap64 (x16 + 1))))) else (none)) else (none)) else (if (x4.length : Int) > 40 then (some (([] : List (S115)), 3)) else (some (x4, 0)))
def sheet_Read.f (k : Nat) (a0 : ByteArray) : Option ((List (S115)) × Int) := if (a0.size : Int) > 4000 then (some (([] : List (S115)), 3)) else ((scan_Strip.f a0).bind fun t192 => ((scan_Blocks.f k t192).bind fun t193 => (sheet_Read.l0 k ([] : List (S115)) t193 (t193.length : Int) 0)))
theorem sheet_Read.mono_l : ∀ k, (∀ y0 y1 y2 y3, LeO (sheet_Read.l0 k y0 y1 y2 y3) (sheet_Read.l0 (k + 1) y0 y1 y2 y3))
 | 0 => fun _ _ _ _ r h => by simp [sheet_Read.l0] at h
 | k + 1 => by
  have ih0 := sheet_Read.mono_l k
  ·intro y0 y1 y2 y3
   unfold sheet_Read.l0
   repeat' first
   | (with_reducible exact ih0 _ _ _ _)
   | (with_reducible exact scan_Blocks.mono _ _)
   | (with_reducible exact selector_List.mono _ _)
   | (with_reducible exact sheet_Decls.mono _ _)
   | (with_reducible exact LeO.refl _)
   | (with_reducible exact LeO.none _)
   | (with_reducible refine LeO.ite ?_ ?_)
   | (with_reducible refine LeO.bind ?_ (fun _ => ?_))
   | exact ih0 _ _ _ _
   | exact scan_Blocks.mono _ _
   | exact selector_List.mono _ _
   | exact sheet_Decls.mono _ _
   | exact LeO.none _
   | refine LeO.ite ?_ ?_
   | refine LeO.bind ?_ (fun _ => ?_)
theorem sheet_Read.mono : ∀ a0 k, LeO (sheet_Read.f k a0) (sheet_Read.f (k + 1) a0) := by
 intro a0 k
 have ih0 := sheet_Read.mono_l k
 unfold sheet_Read.f
 repeat' first
   | (with_reducible exact ih0 _ _ _ _)
   | (with_reducible exact scan_Blocks.mono _ _)
   | (with_reducible exact selector_List.mono _ _)
   | (with_reducible exact sheet_Decls.mono _ _)
   | (with_reducible exact LeO.refl _)
   | (with_reducible exact LeO.none _)
   | (with_reducible refine LeO.ite ?_ ?_)
   | (with_reducible refine LeO.bind ?_ (fun _ => ?_))
   | exact ih0 _ _ _ _
   | exact scan_Blocks.mono _ _
   | exact selector_List.mono _ _
   | exact sheet_Decls.mono _ _
   | exact LeO.none _
   | refine LeO.ite ?_ ?_
   | refine LeO.bind ?_ (fun _ => ?_)
set_option maxHeartbeats 8000000 in
set_option maxRecDepth 100000 in
theorem sheet_Read.calls (k : Nat) (a0 : ByteArray) (r1 : List (S115)) (r2 : Int) (w : World) (h : sheet_Read.f k a0 = some (r1, r2)) (hmx : Go.Proofs.Sht.Env w) :
  Calls Tryz.prog 27 #[.string a0] w fun e w' => ∃ v0_ : Value, e = .returned (.tuple #[v0_, .int .i64 r2]) ∧ Kd.R k115 115 w' w.heap.size (fun _ => True) v0_ r1 ∧ Below w.heap.size w w' := by
 have HMX := Aside0.mk hmx
 clear hmx
 have hu119 := Tryz.underlying119
 have hu115 := Tryz.underlying115
 have HB := Aside0.mk (Below.refl w.heap.size w)
 have H : (if (a0.size : Int) > 4000 then (some (([] : List (S115)), 3)) else ((scan_Strip.f a0).bind fun t192 => ((scan_Blocks.f k t192).bind fun t193 => (sheet_Read.l0 k ([] : List (S115)) t193 (t193.length : Int) 0)))) = some (r1, r2) := h
 clear h
 by_cases c2 : (a0.size : Int) > 4000
 ·rw [if_pos c2] at H
  have c2b0 : decide (4000 < (a0.size : Int)) = true := decide_eq_true c2
  have c2b1 : decide (4000 < a0.size) = true := decide_eq_true (by omega)
  clear c2
  simp only [Option.some.injEq, Prod.mk.injEq] at H
  obtain ⟨rfl, rfl⟩ := H
  go_enter Tryz.func27, Tryz.ntmps27
  go_wp2
  go_ret2
  exact ⟨_, by first | rfl, by exact Kd.R_nil _ _ _ _ _, by exact HB.out⟩
 ·rw [if_neg c2] at H
  have c2b0 : decide (4000 < (a0.size : Int)) = false := decide_eq_false c2
  have c2b1 : decide (4000 < a0.size) = false := decide_eq_false (by omega)
  clear c2
  replace H := Option.bind_eq_some_iff.mp H
  obtain ⟨t192, A30, H⟩ := H
  replace H : ((scan_Blocks.f k t192).bind fun t193 => (sheet_Read.l0 k ([] : List (S115)) t193 (t193.length : Int) 0)) = some (r1, r2) := H
  have A3 := Aside0.mk A30
  clear A30
  replace H := Option.bind_eq_some_iff.mp H
  obtain ⟨t193, A40, H⟩ := H
  replace H : (sheet_Read.l0 k ([] : List (S115)) t193 (t193.length : Int) 0) = some (r1, r2) := H
  have A4 := Aside0.mk A40
  clear A40
  have H' := Aside0.mk H
  clear H
  go_enter Tryz.func27, Tryz.ntmps27
  go_wp2_with (first | ((with_reducible refine gate_callee (f := 65) rfl ?_); refine goesL_ (some 13) rfl rfl Tryz.func65 (by kernel_rfl) rfl #[.string a0] rfl (by (try simp only [List.map_toArray, List.map_cons, List.map_nil]); first | rfl) ?_; (with_reducible refine (scan_Strip.calls a0 t192 _ A3.out (HMX.out.below HB.out)).mono ?_); rintro e w5 ⟨rfl, hb⟩; refine ⟨_, rfl, ?_⟩; have n0_ := Aside0.mk (below_step HB.out hb); clear HB; have HB := n0_; clear n0_; (try clear hb); (try clear hb2); (try clear hk); (try clear hi)) | ((with_reducible refine gate_callee (f := 64) rfl ?_); refine goesL_ (some 14) rfl rfl Tryz.func64 (by kernel_rfl) rfl #[.string t192] rfl (by (try simp only [List.map_toArray, List.map_cons, List.map_nil]); first | rfl) ?_; (with_reducible refine (scan_Blocks.calls k t192 t193 _ A4.out).mono ?_); rintro e w6 ⟨v194, rfl, ho0, hb⟩; refine ⟨_, rfl, ?_⟩; have n0_ := Aside0.mk (Kd.R_lower ho0 (below_size HB.out)); have n1_ := Aside0.mk (below_step HB.out hb); clear HB; have HO195 := n0_; have HB := n1_; clear n0_ n1_; (try clear hb); (try clear hb2); (try clear hk); (try clear hi); (try clear ho0); obtain ⟨Ao7, co7, eo7⟩ := Kd.R_slice HO195.out; subst eo7))
  go_loopg [4, 16] k (fun kq v4 v16 w' => ∃ (x4_1 : List (S115)) (x16_1 : Int), v16 = .int .i64 x16_1 ∧ Aside0 (sheet_Read.l0 kq x4_1 t193 (t193.length : Int) x16_1 = some (r1, r2)) ∧ Aside0 (kq ≤ k) ∧ Aside0 (Kd.R k115 115 w' w.heap.size (fun _ => True) v4 x4_1) ∧ Aside0 (Kd.R k119 119 w' w.heap.size (fun _ => True) (.slice Ao7 t193.length co7) t193) ∧ Aside0 (Below w.heap.size w w'))
  case atStart => exact ⟨(([] : List (S115))), (0), (by first | rfl), H', ⟨Nat.le_refl _⟩, ⟨by exact Kd.R_nil _ _ _ _ _⟩, ⟨by exact HO195.out⟩, ⟨by exact HB.out⟩⟩
  case round =>
   clear H'
   try clear c2
   try clear c2b0
   try clear c2b1
   try clear p2
   try clear c6
   obtain ⟨x4_1, x16_1, rfl, HA, HK1, HO_4, HO_14, HB⟩ := hrel
   cases gk with
   | zero => exact absurd HA.out (by simp [sheet_Read.l0])
   | succ k1 =>
    have H := HA.out
    clear HA
    simp only [sheet_Read.l0] at H
    by_cases c8 : x16_1 < (t193.length : Int)
    ·rw [if_pos c8] at H
     have c8b0 : decide (x16_1 < (t193.length : Int)) = true := decide_eq_true c8
     clear c8
     by_cases c9 : 0 ≤ x16_1
     ·rw [if_pos c9] at H
      have c9b0 : decide (0 ≤ x16_1) = true := decide_eq_true c9
      clear c9
      by_cases c10 : x16_1 < (t193.length : Int)
      ·rw [if_pos c10] at H
       have c10b0 : decide (x16_1 < (t193.length : Int)) = true := decide_eq_true c10
       clear c10
       replace H := Option.bind_eq_some_iff.mp H
       obtain ⟨⟨t198, t199⟩, A110, H⟩ := H
       replace H : (if t199 = true then ((sheet_Decls.f k1 ((rd_T119 t193 x16_1).f1)).bind fun t202 => (if x4_1.length < 2932031007402 then (sheet_Read.l0 k1 (x4_1 ++ [(⟨t198, t202⟩ : S115)]) t193 (t193.length : Int) (wrap64 (x16_1 + 1))) else (none))) else (sheet_Read.l0 k1 x4_1 t193 (t193.length : Int) (wrap64 (x16_1 + 1)))) = some (r1, r2) := H
       have A11 := Aside0.mk A110
       clear A110
       by_cases c12 : t199 = true
       ·subst c12
        have H1 : ((sheet_Decls.f k1 ((rd_T119 t193 x16_1).f1)).bind fun t202 => (if x4_1.length < 2932031007402 then (sheet_Read.l0 k1 (x4_1 ++ [(⟨t198, t202⟩ : S115)]) t193 (t193.length : Int) (wrap64 (x16_1 + 1))) else (none))) = some (r1, r2) := by rw [if_pos rfl] at H; exact H
        clear H
        have H := H1
        clear H1
        replace H := Option.bind_eq_some_iff.mp H
        obtain ⟨t202, A130, H⟩ := H
        replace H : (if x4_1.length < 2932031007402 then (sheet_Read.l0 k1 (x4_1 ++ [(⟨t198, t202⟩ : S115)]) t193 (t193.length : Int) (wrap64 (x16_1 + 1))) else (none)) = some (r1, r2) := H
        have A13 := Aside0.mk A130
        clear A130
        by_cases c14 : x4_1.length < 2932031007402
        ·rw [if_pos c14] at H
         have LMc14 := Aside0.mk c14
         clear c14
         obtain ⟨y205, hy205⟩ : ∃ y_ : List (S115), y_ = (x4_1 ++ [(⟨t198, t202⟩ : S115)]) := ⟨_, rfl⟩
         replace H : (sheet_Read.l0 k1 y205 t193 (t193.length : Int) (wrap64 (x16_1 + 1))) = some (r1, r2) := by first | (rw [hy205]; with_reducible exact H)
         have Ny205 := Aside0.mk hy205
         clear hy205
         have H' := Aside0.mk H
         clear H
         have p196 : 0 ≤ (x16_1 : Int) := of_decide_eq_true (by first | (with_reducible assumption))
         have q196 : x16_1 < (t193.length : Int) := of_decide_eq_true (by first | (with_reducible assumption))
         obtain ⟨ad196, e196, hx196_0, hx196_1⟩ := at_T119 (Kd.R_reads' HO_14.out).2.2 x16_1 p196 q196
         cases e196
         replace p196 := eq_true p196
         replace q196 := eq_true q196
         go_wp2_with (first | ((with_reducible refine gate_dst (N := 6) rfl ?_); refine box_event ?hg (N := 6) ?hd (cs := #[.string (⟨#[]⟩ : ByteArray), .string (⟨#[]⟩ : ByteArray)]) (t := 119) ?hr ?_; (case hd => rfl); (case hg => rfl); (case hr => first | (go_simp; done)); intro gb197 hg w15 hbox hb; have n0_ := Aside0.mk (Kd.R_below HO_4.out hb); have n1_ := Aside0.mk (Kd.R_below (Kd.R_elderB HO_14.out gb197 (Nat.le_of_eq hg.symm)) hb); have n2_ := Aside0.mk (below_step HB.out hb); have n3_ := Aside0.mk (hbox); have n4_ := Aside0.mk ((by rw [hg]; exact (below_size HB.out) : w.heap.size ≤ gb197)); have n5_ := Aside0.mk ((by rw [hg]; exact (below_size HB.out) : w.heap.size ≤ gb197)); clear HO_4; clear HO_14; clear HB; have HO_4 := n0_; have HO_14 := n1_; have HB := n2_; have BK197 := n3_; have GW197 := n4_; have GE197 := n5_; clear n0_ n1_ n2_ n3_ n4_ n5_; clear hb hbox hg; have hcz16_0 : w15.cell? ⟨gb197, 0, none⟩ = some (.string (⟨#[]⟩ : ByteArray)) := (blk_cell BK197.out 0).trans rfl; have hcz16_1 : w15.cell? ⟨gb197, 1, none⟩ = some (.string (⟨#[]⟩ : ByteArray)) := (blk_cell BK197.out 1).trans rfl; have hfz16_0 := blk_frozen BK197.out 0; have hfz16_1 := blk_frozen BK197.out 1) | ((with_reducible refine gate_callee (f := 14) rfl ?_); refine goesL_ (some 23) rfl rfl Tryz.func14 (by kernel_rfl) rfl #[.string ((rd_T119 t193 x16_1).f0)] rfl (by (try simp only [List.map_toArray, List.map_cons, List.map_nil]); first | rfl) ?_; (with_reducible refine (selector_List.calls k1 ((rd_T119 t193 x16_1).f0) t198 true _ A11.out (HMX.out.below (by repeat (with_reducible first | exact HB.out | refine below_set ?_ GE197.out)))).mono ?_); rintro e w17 ⟨v200, rfl, ho0, hb⟩; refine ⟨_, rfl, ?_⟩; have n0_ := Aside0.mk (Kd.R_elder' (by exact (Kd.R_mono (Kd.R_far (p := ⟨gb197, 1, none⟩) (Kd.R_far (p := ⟨gb197, 0, none⟩) (Kd.R_types HO_4.out BK197.out (by decide)) (fun _ hk => hk.2) (.string ((rd_T119 t193 x16_1).f0))) (fun _ hk => hk.2) (.string ((rd_T119 t193 x16_1).f1))) (fun _ h_ => h_.1))) (Kd.R_base ho0) hb); have n1_ := Aside0.mk (Kd.R_below (by exact (Kd.R_mono (Kd.R_far (p := ⟨gb197, 1, none⟩) (Kd.R_far (p := ⟨gb197, 0, none⟩) (Kd.R_mono HO_14.out (fun k_ hk => (⟨hk, hk.2⟩ : _ ∧ k_ ≠ gb197))) (fun _ hk => hk.2) (.string ((rd_T119 t193 x16_1).f0))) (fun _ hk => hk.2) (.string ((rd_T119 t193 x16_1).f1))) (fun _ h_ => h_.1))) hb); have n2_ := Aside0.mk (Kd.R_lower ho0 (below_size (by repeat (with_reducible first | exact HB.out | refine below_set ?_ GE197.out)))); have n3_ := Aside0.mk (blk_below (g := gb197) (o := .cells #[.string ((rd_T119 t193 x16_1).f0), .string ((rd_T119 t193 x16_1).f1)] 119 (0, 0)) (by refine blk_put (cs := #[.string ((rd_T119 t193 x16_1).f0), .string (⟨#[]⟩ : ByteArray)]) ?_ 1 _ rfl; refine blk_put (cs := #[.string (⟨#[]⟩ : ByteArray), .string (⟨#[]⟩ : ByteArray)]) ?_ 0 _ rfl; exact BK197.out) hb); have n4_ := Aside0.mk (below_step (by repeat (with_reducible first | exact HB.out | refine below_set ?_ GE197.out)) hb); clear HO_4; clear HO_14; clear BK197; clear HB; have HO_4 := n0_; have HO_14 := n1_; have HO201 := n2_; have BK197 := n3_; have HB := n4_; clear n0_ n1_ n2_ n3_ n4_; (try clear hb); (try clear hb2); (try clear hk); (try clear hi); (try clear ho0); have hcz18_0 : w17.cell? ⟨gb197, 0, none⟩ = some (.string ((rd_T119 t193 x16_1).f0)) := (blk_cell BK197.out 0).trans rfl; have hcz18_1 : w17.cell? ⟨gb197, 1, none⟩ = some (.string ((rd_T119 t193 x16_1).f1)) := (blk_cell BK197.out 1).trans rfl; have hfz18_0 := blk_frozen BK197.out 0; have hfz18_1 := blk_frozen BK197.out 1) | ((with_reducible refine gate_callee (f := 32) rfl ?_); refine goesL_ (some 31) rfl rfl Tryz.func32 (by kernel_rfl) rfl #[.string ((rd_T119 t193 x16_1).f1)] rfl (by (try simp only [List.map_toArray, List.map_cons, List.map_nil]); first | rfl) ?_; (with_reducible refine (sheet_Decls.calls k1 ((rd_T119 t193 x16_1).f1) t202 _ A13.out).mono ?_); rintro e w19 ⟨v203, rfl, ho0, hb⟩; refine ⟨_, rfl, ?_⟩; have n0_ := Aside0.mk (Kd.R_elder' HO_4.out (Kd.R_base ho0) hb); have n1_ := Aside0.mk (Kd.R_below HO_14.out hb); have n2_ := Aside0.mk (Kd.R_below HO201.out hb); have n3_ := Aside0.mk (Kd.R_lower ho0 (below_size HB.out)); have n4_ := Aside0.mk (blk_below (g := gb197) (o := .cells #[.string ((rd_T119 t193 x16_1).f0), .string ((rd_T119 t193 x16_1).f1)] 119 (0, 0)) BK197.out hb); have n5_ := Aside0.mk (below_step HB.out hb); clear HO_4; clear HO_14; clear HO201; clear BK197; clear HB; have HO_4 := n0_; have HO_14 := n1_; have HO201 := n2_; have HO204 := n3_; have BK197 := n4_; have HB := n5_; clear n0_ n1_ n2_ n3_ n4_ n5_; (try clear hb); (try clear hb2); (try clear hk); (try clear hi); (try clear ho0); obtain ⟨Ao20, co20, eo20⟩ := Kd.R_slice HO204.out; subst eo20; obtain ⟨Ao21, co21, eo21⟩ := Kd.R_slice HO201.out; subst eo21) | ((with_reducible refine gate_builtin (b := .append) (xs := #[.tmp 27, .tmp 33]) rfl ?_); at_builtin; refine Kd.R_append k115 (w0 := w) w.heap.size rfl (.tmp 27) (.tmp 33) 50 115 (.agg #[(.slice none 0 0), (.slice none 0 0)]) 48 rfl Tryz.underlying50 info115 rfl (by decide) (by omega) u4 x4_1 (⟨t198, t202⟩ : S115) [.slice Ao21 t198.length co21, .slice Ao20 t202.length co20] (fun _ => True) (fun k_ => ((fun _ => True)) k_ ∧ some k_ ≠ (u4 : Value).ownBlock) rfl rfl ?aP (fun _ hk => hk) ?aF ?aO ?aB ?aS ?aL ?_; (case aP => exact k115_mkM _ _ _ (⟨t198, t202⟩ : S115) (Kd.R_mono (Kd.R_apart' (HO201.out) (Kd.R_typed HO_4.out) (by decide)) (fun k_ hk => ⟨trivial, hk.2⟩)) (Kd.R_mono (Kd.R_apart' (HO204.out) (Kd.R_typed HO_4.out) (by decide)) (fun k_ hk => ⟨trivial, hk.2⟩))); (case aB => exact HB.out); (case aF => exact (fun _ _ => trivial)); (case aO => exact (by exact Kd.R_mono HO_4.out (fun _ hk => trivial))); (case aS => exact (below_size HB.out)); (case aL => have := LMc14.out; omega); intro v206 w22 ho hb hg hat; rw [← Ny205.out] at ho; have n0_ := Aside0.mk (Kd.R_over' HO_14.out (Kd.R_typed HO_4.out) (by decide) hg); have n1_ := Aside0.mk (blk_grown (g := gb197) (o := .cells #[.string ((rd_T119 t193 x16_1).f0), .string ((rd_T119 t193 x16_1).f1)] 119 (0, 0)) BK197.out hg (Kd.R_ne HO_4.out BK197.out (by decide))); have n2_ := Aside0.mk (hb); have n3_ := Aside0.mk (ho); clear HO_14; clear BK197; clear HB; clear HO_4; clear HO201; clear HO204; have HO_14 := n0_; have BK197 := n1_; have HB := n2_; have HO207 := n3_; clear n0_ n1_ n2_ n3_; clear ho hb hg hat))
         go_roundg k1
         case measure => have := HK1.out; omega
         case rel => exact ⟨(y205), (wrap64 (x16_1 + 1)), (by first | rfl), H', ⟨by have := HK1.out; omega⟩, ⟨by exact HO207.out⟩, ⟨by exact Kd.R_mono HO_14.out (fun _ hk => trivial)⟩, ⟨by exact HB.out⟩⟩
        ·rw [if_neg c14] at H
         exact absurd H (by simp)
       ·replace c12 := Bool.eq_false_iff.mpr c12
        subst c12
        have H1 : (sheet_Read.l0 k1 x4_1 t193 (t193.length : Int) (wrap64 (x16_1 + 1))) = some (r1, r2) := by rw [if_neg (show ¬ (false = true) by decide)] at H; exact H
        clear H
        have H := H1
        clear H1
        have H' := Aside0.mk H
        clear H
        have p196 : 0 ≤ (x16_1 : Int) := of_decide_eq_true (by first | (with_reducible assumption))
        have q196 : x16_1 < (t193.length : Int) := of_decide_eq_true (by first | (with_reducible assumption))
        obtain ⟨ad196, e196, hx196_0, hx196_1⟩ := at_T119 (Kd.R_reads' HO_14.out).2.2 x16_1 p196 q196
        cases e196
        replace p196 := eq_true p196
        replace q196 := eq_true q196
        go_wp2_with (first | ((with_reducible refine gate_dst (N := 6) rfl ?_); refine box_event ?hg (N := 6) ?hd (cs := #[.string (⟨#[]⟩ : ByteArray), .string (⟨#[]⟩ : ByteArray)]) (t := 119) ?hr ?_; (case hd => rfl); (case hg => rfl); (case hr => first | (go_simp; done)); intro gb197 hg w23 hbox hb; have n0_ := Aside0.mk (Kd.R_below HO_4.out hb); have n1_ := Aside0.mk (Kd.R_below (Kd.R_elderB HO_14.out gb197 (Nat.le_of_eq hg.symm)) hb); have n2_ := Aside0.mk (below_step HB.out hb); have n3_ := Aside0.mk (hbox); have n4_ := Aside0.mk ((by rw [hg]; exact (below_size HB.out) : w.heap.size ≤ gb197)); have n5_ := Aside0.mk ((by rw [hg]; exact (below_size HB.out) : w.heap.size ≤ gb197)); clear HO_4; clear HO_14; clear HB; have HO_4 := n0_; have HO_14 := n1_; have HB := n2_; have BK197 := n3_; have GW197 := n4_; have GE197 := n5_; clear n0_ n1_ n2_ n3_ n4_ n5_; clear hb hbox hg; have hcz24_0 : w23.cell? ⟨gb197, 0, none⟩ = some (.string (⟨#[]⟩ : ByteArray)) := (blk_cell BK197.out 0).trans rfl; have hcz24_1 : w23.cell? ⟨gb197, 1, none⟩ = some (.string (⟨#[]⟩ : ByteArray)) := (blk_cell BK197.out 1).trans rfl; have hfz24_0 := blk_frozen BK197.out 0; have hfz24_1 := blk_frozen BK197.out 1) | ((with_reducible refine gate_callee (f := 14) rfl ?_); refine goesL_ (some 23) rfl rfl Tryz.func14 (by kernel_rfl) rfl #[.string ((rd_T119 t193 x16_1).f0)] rfl (by (try simp only [List.map_toArray, List.map_cons, List.map_nil]); first | rfl) ?_; (with_reducible refine (selector_List.calls k1 ((rd_T119 t193 x16_1).f0) t198 false _ A11.out (HMX.out.below (by repeat (with_reducible first | exact HB.out | refine below_set ?_ GE197.out)))).mono ?_); rintro e w25 ⟨v200, rfl, ho0, hb⟩; refine ⟨_, rfl, ?_⟩; have n0_ := Aside0.mk (Kd.R_elder' (by exact (Kd.R_mono (Kd.R_far (p := ⟨gb197, 1, none⟩) (Kd.R_far (p := ⟨gb197, 0, none⟩) (Kd.R_types HO_4.out BK197.out (by decide)) (fun _ hk => hk.2) (.string ((rd_T119 t193 x16_1).f0))) (fun _ hk => hk.2) (.string ((rd_T119 t193 x16_1).f1))) (fun _ h_ => h_.1))) (Kd.R_base ho0) hb); have n1_ := Aside0.mk (Kd.R_below (by exact (Kd.R_mono (Kd.R_far (p := ⟨gb197, 1, none⟩) (Kd.R_far (p := ⟨gb197, 0, none⟩) (Kd.R_mono HO_14.out (fun k_ hk => (⟨hk, hk.2⟩ : _ ∧ k_ ≠ gb197))) (fun _ hk => hk.2) (.string ((rd_T119 t193 x16_1).f0))) (fun _ hk => hk.2) (.string ((rd_T119 t193 x16_1).f1))) (fun _ h_ => h_.1))) hb); have n2_ := Aside0.mk (Kd.R_lower ho0 (below_size (by repeat (with_reducible first | exact HB.out | refine below_set ?_ GE197.out)))); have n3_ := Aside0.mk (blk_below (g := gb197) (o := .cells #[.string ((rd_T119 t193 x16_1).f0), .string ((rd_T119 t193 x16_1).f1)] 119 (0, 0)) (by refine blk_put (cs := #[.string ((rd_T119 t193 x16_1).f0), .string (⟨#[]⟩ : ByteArray)]) ?_ 1 _ rfl; refine blk_put (cs := #[.string (⟨#[]⟩ : ByteArray), .string (⟨#[]⟩ : ByteArray)]) ?_ 0 _ rfl; exact BK197.out) hb); have n4_ := Aside0.mk (below_step (by repeat (with_reducible first | exact HB.out | refine below_set ?_ GE197.out)) hb); clear HO_4; clear HO_14; clear BK197; clear HB; have HO_4 := n0_; have HO_14 := n1_; have HO201 := n2_; have BK197 := n3_; have HB := n4_; clear n0_ n1_ n2_ n3_ n4_; (try clear hb); (try clear hb2); (try clear hk); (try clear hi); (try clear ho0)))
        go_roundg k1
        case measure => have := HK1.out; omega
        case rel => exact ⟨(x4_1), (wrap64 (x16_1 + 1)), (by first | rfl), H', ⟨by have := HK1.out; omega⟩, ⟨by exact Kd.R_mono HO_4.out (fun _ hk => trivial)⟩, ⟨by exact Kd.R_mono HO_14.out (fun _ hk => trivial)⟩, ⟨by exact HB.out⟩⟩
      ·rw [if_neg c10] at H
       exact absurd H (by simp)
     ·rw [if_neg c9] at H
      exact absurd H (by simp)
    ·rw [if_neg c8] at H
     have c8b0 : decide (x16_1 < (t193.length : Int)) = false := decide_eq_false c8
     clear c8
     by_cases c26 : (x4_1.length : Int) > 40
     ·rw [if_pos c26] at H
      have c26b0 : decide (40 < (x4_1.length : Int)) = true := decide_eq_true c26
      have c26b1 : decide (40 < x4_1.length) = true := decide_eq_true (by omega)
      clear c26
      simp only [Option.some.injEq, Prod.mk.injEq] at H
      obtain ⟨rfl, rfl⟩ := H
      obtain ⟨Ao27, co27, eo27⟩ := Kd.R_slice HO_4.out
      subst eo27
      go_wp2
      go_ret2
      exact ⟨_, by first | rfl, by exact Kd.R_nil _ _ _ _ _, by exact HB.out⟩
     ·rw [if_neg c26] at H
      have c26b0 : decide (40 < (x4_1.length : Int)) = false := decide_eq_false c26
      have c26b1 : decide (40 < x4_1.length) = false := decide_eq_false (by omega)
      clear c26
      simp only [Option.some.injEq, Prod.mk.injEq] at H
      obtain ⟨rfl, rfl⟩ := H
      obtain ⟨Ao28, co28, eo28⟩ := Kd.R_slice HO_4.out
      subst eo28
      go_wp2
      go_ret2
      exact ⟨_, by first | rfl, by exact HO_4.out, by exact HB.out⟩

/-! ### sheet_May: function 34 (by hand) -/
def sheet_May.smp (x : S80) : Go.Proofs.Tok.Smp := (x.f0, x.f1, x.f2, x.f3, x.f4)
def sheet_May.sel (x : S25) : Go.Proofs.Sht.Sel := (x.f0.map sheet_May.smp, x.f1)
def sheet_May.dc (x : S111) : Go.Proofs.Sht.Dc := (x.f0, x.f1.f0, x.f1.f1, x.f2)
def sheet_May.it (x : S115) : Go.Proofs.Sht.Rl := (x.f0.map sheet_May.sel, x.f1.map sheet_May.dc)
theorem sheet_May.it_C {w : World} {A : Option Addr} {n : Nat} {xs : List (S115)} (h : Kd.C k115 w A n xs) : Kd.C Go.Proofs.Sht.kRl w A n (xs.map sheet_May.it) := by
 refine Go.Proofs.Sht.C_to (d := k115) (d' := Go.Proofs.Sht.kRl) rfl (fun W x cs hK => ?_) h
 obtain ⟨A0, c0, A1, c1, rfl, l0, g0, l1, g1⟩ := k115_open hK
 refine ⟨[_], [_], rfl, ⟨A0, c0, by simp [sheet_May.it], by simpa [sheet_May.it] using l0, ?_⟩, ⟨A1, c1, by simp [sheet_May.it], by simpa [sheet_May.it] using l1, ?_⟩⟩
 ·have q := Go.Proofs.Sht.C_to (d := k25) (d' := Go.Proofs.Sht.kSel) (f := sheet_May.sel) rfl (fun W y cs hy => by
   obtain ⟨B0, b0, B1, b1, rfl, m0, q0, m1, q1⟩ := k25_open hy
   have q2 := Go.Proofs.Tok.C_iso (d := Go.Proofs.Tok.kSmp) (f := sheet_May.smp) q0
   exact ⟨[_], [_], rfl, ⟨B0, b0, by simp [sheet_May.sel], by simpa [sheet_May.sel] using m0, by simpa [sheet_May.sel] using q2⟩, ⟨B1, b1, rfl, m1, q1⟩⟩) g0
  simpa [sheet_May.it] using q
 ·have q := Go.Proofs.Sht.C_to (d := k111) (d' := Go.Proofs.Sht.kDc) (f := sheet_May.dc) rfl (fun W y cs hy => by
   obtain ⟨_, _, rfl, rfl, ⟨_, _, rfl, ⟨_, _, rfl, rfl, rfl⟩, rfl⟩⟩ := hy
   exact ⟨[.int .i64 y.f0], [.int .i64 y.f1.f0, .int .i64 y.f1.f1, .bool y.f2], rfl, rfl, ⟨[.int .i64 y.f1.f0], [.int .i64 y.f1.f1, .bool y.f2], rfl, rfl, ⟨[.int .i64 y.f1.f1], [.bool y.f2], rfl, rfl, rfl⟩⟩⟩) g1
  simpa [sheet_May.it] using q
def sheet_May.f (l0 : List (S115)) : Option Bool := if l0.length ≤ 8796093022208 ∧ ∀ x ∈ l0.map sheet_May.it, Go.Proofs.Sht.fitR x then some (Go.Proofs.Sht.mayL (l0.map sheet_May.it)) else none
theorem sheet_May.calls (A0 : Option Addr) (c0 : Nat) (l0 : List (S115)) (r : Bool) (w : World) (hr0 : Kd.C k115 w A0 l0.length l0) (hc0 : l0.length ≤ c0) (h : sheet_May.f l0 = some r) :
  Calls Tryz.prog 34 #[.slice A0 l0.length c0] w fun e w' => e = .returned (.bool r) ∧ Below w.heap.size w w' := by
 unfold sheet_May.f at h
 by_cases h1 : l0.length ≤ 8796093022208 ∧ ∀ x ∈ l0.map sheet_May.it, Go.Proofs.Sht.fitR x
 ·rw [if_pos h1] at h
  cases h
  have q := Go.Proofs.Sht.MayC (l0.map sheet_May.it) A0 c0 w (by rw [List.length_map]; exact sheet_May.it_C hr0) (by rw [List.length_map]; exact h1.1) h1.2
  rw [List.length_map] at q
  exact q
 ·rw [if_neg h1] at h; cases h


/-! ### sheet_Print: function 36 (by hand) -/
def sheet_Print.smp (x : S80) : Go.Proofs.Tok.Smp := (x.f0, x.f1, x.f2, x.f3, x.f4)
def sheet_Print.sel (x : S25) : Go.Proofs.Sht.Sel := (x.f0.map sheet_Print.smp, x.f1)
def sheet_Print.dc (x : S111) : Go.Proofs.Sht.Dc := (x.f0, x.f1.f0, x.f1.f1, x.f2)
def sheet_Print.it (x : S115) : Go.Proofs.Sht.Rl := (x.f0.map sheet_Print.sel, x.f1.map sheet_Print.dc)
theorem sheet_Print.it_C {w : World} {A : Option Addr} {n : Nat} {xs : List (S115)} (h : Kd.C k115 w A n xs) : Kd.C Go.Proofs.Sht.kRl w A n (xs.map sheet_Print.it) := by
 refine Go.Proofs.Sht.C_to (d := k115) (d' := Go.Proofs.Sht.kRl) rfl (fun W x cs hK => ?_) h
 obtain ⟨A0, c0, A1, c1, rfl, l0, g0, l1, g1⟩ := k115_open hK
 refine ⟨[_], [_], rfl, ⟨A0, c0, by simp [sheet_Print.it], by simpa [sheet_Print.it] using l0, ?_⟩, ⟨A1, c1, by simp [sheet_Print.it], by simpa [sheet_Print.it] using l1, ?_⟩⟩
 ·have q := Go.Proofs.Sht.C_to (d := k25) (d' := Go.Proofs.Sht.kSel) (f := sheet_Print.sel) rfl (fun W y cs hy => by
   obtain ⟨B0, b0, B1, b1, rfl, m0, q0, m1, q1⟩ := k25_open hy
   have q2 := Go.Proofs.Tok.C_iso (d := Go.Proofs.Tok.kSmp) (f := sheet_Print.smp) q0
   exact ⟨[_], [_], rfl, ⟨B0, b0, by simp [sheet_Print.sel], by simpa [sheet_Print.sel] using m0, by simpa [sheet_Print.sel] using q2⟩, ⟨B1, b1, rfl, m1, q1⟩⟩) g0
  simpa [sheet_Print.it] using q
 ·have q := Go.Proofs.Sht.C_to (d := k111) (d' := Go.Proofs.Sht.kDc) (f := sheet_Print.dc) rfl (fun W y cs hy => by
   obtain ⟨_, _, rfl, rfl, ⟨_, _, rfl, ⟨_, _, rfl, rfl, rfl⟩, rfl⟩⟩ := hy
   exact ⟨[.int .i64 y.f0], [.int .i64 y.f1.f0, .int .i64 y.f1.f1, .bool y.f2], rfl, rfl, ⟨[.int .i64 y.f1.f0], [.int .i64 y.f1.f1, .bool y.f2], rfl, rfl, ⟨[.int .i64 y.f1.f1], [.bool y.f2], rfl, rfl, rfl⟩⟩⟩) g1
  simpa [sheet_Print.it] using q
def sheet_Print.f (l0 : List (S115)) : Option ByteArray := if l0.length ≤ 8796093022208 ∧ (∀ x ∈ l0.map sheet_Print.it, Go.Proofs.Sht.fitR x) ∧ ∀ x ∈ l0.map sheet_Print.it, Go.Proofs.Sht.txtR x then some (Go.Proofs.Sht.printR (l0.map sheet_Print.it)) else none
theorem sheet_Print.calls (A0 : Option Addr) (c0 : Nat) (l0 : List (S115)) (r : ByteArray) (w : World) (hr0 : Kd.C k115 w A0 l0.length l0) (hc0 : l0.length ≤ c0) (h : sheet_Print.f l0 = some r) (hmx : Go.Proofs.Sht.Env w) :
  Calls Tryz.prog 36 #[.slice A0 l0.length c0] w fun e w' => e = .returned (.string r) ∧ Below w.heap.size w w' := by
 unfold sheet_Print.f at h
 by_cases h1 : l0.length ≤ 8796093022208 ∧ (∀ x ∈ l0.map sheet_Print.it, Go.Proofs.Sht.fitR x) ∧ ∀ x ∈ l0.map sheet_Print.it, Go.Proofs.Sht.txtR x
 ·rw [if_pos h1] at h
  cases h
  have q := Go.Proofs.Sht.PrintC (l0.map sheet_Print.it) A0 c0 w (by rw [List.length_map]; exact sheet_Print.it_C hr0) (by rw [List.length_map]; exact h1.1) h1.2.1 (fun _ => h1.2.2) hmx.2
  rw [List.length_map] at q
  exact q
 ·rw [if_neg h1] at h; cases h


/-! ### sheet_Same: function 38 (by hand) -/
def sheet_Same.smp (x : S80) : Go.Proofs.Tok.Smp := (x.f0, x.f1, x.f2, x.f3, x.f4)
def sheet_Same.sel (x : S25) : Go.Proofs.Sht.Sel := (x.f0.map sheet_Same.smp, x.f1)
def sheet_Same.dc (x : S111) : Go.Proofs.Sht.Dc := (x.f0, x.f1.f0, x.f1.f1, x.f2)
def sheet_Same.it (x : S115) : Go.Proofs.Sht.Rl := (x.f0.map sheet_Same.sel, x.f1.map sheet_Same.dc)
theorem sheet_Same.it_C {w : World} {A : Option Addr} {n : Nat} {xs : List (S115)} (h : Kd.C k115 w A n xs) : Kd.C Go.Proofs.Sht.kRl w A n (xs.map sheet_Same.it) := by
 refine Go.Proofs.Sht.C_to (d := k115) (d' := Go.Proofs.Sht.kRl) rfl (fun W x cs hK => ?_) h
 obtain ⟨A0, c0, A1, c1, rfl, l0, g0, l1, g1⟩ := k115_open hK
 refine ⟨[_], [_], rfl, ⟨A0, c0, by simp [sheet_Same.it], by simpa [sheet_Same.it] using l0, ?_⟩, ⟨A1, c1, by simp [sheet_Same.it], by simpa [sheet_Same.it] using l1, ?_⟩⟩
 ·have q := Go.Proofs.Sht.C_to (d := k25) (d' := Go.Proofs.Sht.kSel) (f := sheet_Same.sel) rfl (fun W y cs hy => by
   obtain ⟨B0, b0, B1, b1, rfl, m0, q0, m1, q1⟩ := k25_open hy
   have q2 := Go.Proofs.Tok.C_iso (d := Go.Proofs.Tok.kSmp) (f := sheet_Same.smp) q0
   exact ⟨[_], [_], rfl, ⟨B0, b0, by simp [sheet_Same.sel], by simpa [sheet_Same.sel] using m0, by simpa [sheet_Same.sel] using q2⟩, ⟨B1, b1, rfl, m1, q1⟩⟩) g0
  simpa [sheet_Same.it] using q
 ·have q := Go.Proofs.Sht.C_to (d := k111) (d' := Go.Proofs.Sht.kDc) (f := sheet_Same.dc) rfl (fun W y cs hy => by
   obtain ⟨_, _, rfl, rfl, ⟨_, _, rfl, ⟨_, _, rfl, rfl, rfl⟩, rfl⟩⟩ := hy
   exact ⟨[.int .i64 y.f0], [.int .i64 y.f1.f0, .int .i64 y.f1.f1, .bool y.f2], rfl, rfl, ⟨[.int .i64 y.f1.f0], [.int .i64 y.f1.f1, .bool y.f2], rfl, rfl, ⟨[.int .i64 y.f1.f1], [.bool y.f2], rfl, rfl, rfl⟩⟩⟩) g1
  simpa [sheet_Same.it] using q
def sheet_Same.f (l0 : List (S115)) (l1 : List (S115)) : Option Bool := if l0.length ≤ 1000000 ∧ l1.length ≤ 1000000 ∧ (∀ x ∈ l0.map sheet_Same.it, Go.Proofs.Sht.lenR x) ∧ ∀ x ∈ l1.map sheet_Same.it, Go.Proofs.Sht.lenR x then some (decide (l0.map sheet_Same.it = l1.map sheet_Same.it)) else none
theorem sheet_Same.calls (A0 : Option Addr) (c0 : Nat) (l0 : List (S115)) (A1 : Option Addr) (c1 : Nat) (l1 : List (S115)) (r : Bool) (w : World) (hr0 : Kd.C k115 w A0 l0.length l0) (hc0 : l0.length ≤ c0) (hr1 : Kd.C k115 w A1 l1.length l1) (hc1 : l1.length ≤ c1) (h : sheet_Same.f l0 l1 = some r) :
  Calls Tryz.prog 38 #[.slice A0 l0.length c0, .slice A1 l1.length c1] w fun e w' => e = .returned (.bool r) ∧ Below w.heap.size w w' := by
 unfold sheet_Same.f at h
 by_cases h1 : l0.length ≤ 1000000 ∧ l1.length ≤ 1000000 ∧ (∀ x ∈ l0.map sheet_Same.it, Go.Proofs.Sht.lenR x) ∧ ∀ x ∈ l1.map sheet_Same.it, Go.Proofs.Sht.lenR x
 ·rw [if_pos h1] at h
  cases h
  have q := Go.Proofs.Sht.SameC (l0.map sheet_Same.it) (l1.map sheet_Same.it) A0 A1 c0 c1 w (by rw [List.length_map]; exact sheet_Same.it_C hr0) (by rw [List.length_map]; exact sheet_Same.it_C hr1) (by rw [List.length_map]; exact h1.1) (by rw [List.length_map]; exact h1.2.1) h1.2.2.1 h1.2.2.2
  rw [List.length_map, List.length_map] at q
  exact q
 ·rw [if_neg h1] at h; cases h


/-! ### scrimlaw10_awake: function 24 -/
def scrimlaw10_awake.f (k : Nat)  : Option (Bool) := (sheet_Read.f k (⟨#[97, 123, 99, 111, 108, 111, 114, 58, 82, 69, 68, 59, 120, 58, 121, 59, 111, 114, 100, 101, 114, 58, 49, 33, 105, 109, 112, 111, 114, 116, 97, 110, 116, 125, 47, 42, 122, 42, 47, 98, 44, 123, 125]⟩ : ByteArray)).bind fun bt208 => ((sheet_Decls.f k (⟨#[109, 97, 114, 103, 105, 110, 58, 32, 49, 112, 120, 32, 50, 112, 120, 32, 51, 112, 120, 59, 32, 112, 97, 100, 100, 105, 110, 103, 58, 32, 49, 112, 120, 32, 120]⟩ : ByteArray)).bind fun t212 => (if bt208.2 = 0 then ((sheet_Print.f bt208.1).bind fun t215 => (if t215.toList = ([97, 32, 123, 32, 99, 111, 108, 111, 114, 58, 32, 35, 102, 102, 48, 48, 48, 48, 59, 32, 111, 114, 100, 101, 114, 58, 32, 49, 32, 33, 105, 109, 112, 111, 114, 116, 97, 110, 116, 59, 32, 125, 10] : List UInt8) then ((sheet_May.f bt208.1).bind fun t216 => (if t216 = true then ((sheet_Same.f bt208.1 bt208.1).bind fun t217 => (if t217 = true then ((sheet_Same.f bt208.1 ([] : List (S115))).bind fun t218 => (if t218 = true then (some false) else (if (t212.length : Int) = 4 then (if 2 < (t212.length : Int) then (if ((rd_T111 t212 2).f0) = 6 then (if ((rd_T111 t212 2).f1.f1) = 192 then (if 3 < (t212.length : Int) then (some (((rd_T111 t212 3).f1.f1) == 128)) else (none)) else (some false)) else (some false)) else (none)) else (some false)))) else (some false))) else (some false))) else (some false))) else (some false)))
theorem scrimlaw10_awake.mono : ∀ k, LeO (scrimlaw10_awake.f k ) (scrimlaw10_awake.f (k + 1) ) := by
 intro  k
 unfold scrimlaw10_awake.f
 repeat' first
   | (with_reducible exact sheet_Decls.mono _ _)
   | (with_reducible exact sheet_Read.mono _ _)
   | (with_reducible exact LeO.refl _)
   | (with_reducible exact LeO.none _)
   | (with_reducible refine LeO.ite ?_ ?_)
   | (with_reducible refine LeO.bind ?_ (fun _ => ?_))
   | exact sheet_Decls.mono _ _
   | exact sheet_Read.mono _ _
   | exact LeO.none _
   | refine LeO.ite ?_ ?_
   | refine LeO.bind ?_ (fun _ => ?_)
set_option maxHeartbeats 8000000 in
set_option maxRecDepth 100000 in
theorem scrimlaw10_awake.calls (k : Nat)  (r : Bool) (hrt : r = true) (w : World) (h : scrimlaw10_awake.f k  = some r) (hmx : Go.Proofs.Sht.Env w) :
  Calls Tryz.prog 24 #[] w fun e w' => e = .returned (.bool r) ∧ Below w.heap.size w w' := by
 have HMX := Aside0.mk hmx
 clear hmx
 have HB := Aside0.mk (Below.refl w.heap.size w)
 have H : ((sheet_Read.f k (⟨#[97, 123, 99, 111, 108, 111, 114, 58, 82, 69, 68, 59, 120, 58, 121, 59, 111, 114, 100, 101, 114, 58, 49, 33, 105, 109, 112, 111, 114, 116, 97, 110, 116, 125, 47, 42, 122, 42, 47, 98, 44, 123, 125]⟩ : ByteArray)).bind fun bt208 => ((sheet_Decls.f k (⟨#[109, 97, 114, 103, 105, 110, 58, 32, 49, 112, 120, 32, 50, 112, 120, 32, 51, 112, 120, 59, 32, 112, 97, 100, 100, 105, 110, 103, 58, 32, 49, 112, 120, 32, 120]⟩ : ByteArray)).bind fun t212 => (if bt208.2 = 0 then ((sheet_Print.f bt208.1).bind fun t215 => (if t215.toList = ([97, 32, 123, 32, 99, 111, 108, 111, 114, 58, 32, 35, 102, 102, 48, 48, 48, 48, 59, 32, 111, 114, 100, 101, 114, 58, 32, 49, 32, 33, 105, 109, 112, 111, 114, 116, 97, 110, 116, 59, 32, 125, 10] : List UInt8) then ((sheet_May.f bt208.1).bind fun t216 => (if t216 = true then ((sheet_Same.f bt208.1 bt208.1).bind fun t217 => (if t217 = true then ((sheet_Same.f bt208.1 ([] : List (S115))).bind fun t218 => (if t218 = true then (some false) else (if (t212.length : Int) = 4 then (if 2 < (t212.length : Int) then (if ((rd_T111 t212 2).f0) = 6 then (if ((rd_T111 t212 2).f1.f1) = 192 then (if 3 < (t212.length : Int) then (some (((rd_T111 t212 3).f1.f1) == 128)) else (none)) else (some false)) else (some false)) else (none)) else (some false)))) else (some false))) else (some false))) else (some false))) else (some false)))) = some r := h
 clear h
 replace H := Option.bind_eq_some_iff.mp H
 obtain ⟨⟨t208, t209⟩, A10, H⟩ := H
 replace H : ((sheet_Decls.f k (⟨#[109, 97, 114, 103, 105, 110, 58, 32, 49, 112, 120, 32, 50, 112, 120, 32, 51, 112, 120, 59, 32, 112, 97, 100, 100, 105, 110, 103, 58, 32, 49, 112, 120, 32, 120]⟩ : ByteArray)).bind fun t212 => (if t209 = 0 then ((sheet_Print.f t208).bind fun t215 => (if t215.toList = ([97, 32, 123, 32, 99, 111, 108, 111, 114, 58, 32, 35, 102, 102, 48, 48, 48, 48, 59, 32, 111, 114, 100, 101, 114, 58, 32, 49, 32, 33, 105, 109, 112, 111, 114, 116, 97, 110, 116, 59, 32, 125, 10] : List UInt8) then ((sheet_May.f t208).bind fun t216 => (if t216 = true then ((sheet_Same.f t208 t208).bind fun t217 => (if t217 = true then ((sheet_Same.f t208 ([] : List (S115))).bind fun t218 => (if t218 = true then (some false) else (if (t212.length : Int) = 4 then (if 2 < (t212.length : Int) then (if ((rd_T111 t212 2).f0) = 6 then (if ((rd_T111 t212 2).f1.f1) = 192 then (if 3 < (t212.length : Int) then (some (((rd_T111 t212 3).f1.f1) == 128)) else (none)) else (some false)) else (some false)) else (none)) else (some false)))) else (some false))) else (some false))) else (some false))) else (some false))) = some r := H
 have A1 := Aside0.mk A10
 clear A10
 replace H := Option.bind_eq_some_iff.mp H
 obtain ⟨t212, A20, H⟩ := H
 replace H : (if t209 = 0 then ((sheet_Print.f t208).bind fun t215 => (if t215.toList = ([97, 32, 123, 32, 99, 111, 108, 111, 114, 58, 32, 35, 102, 102, 48, 48, 48, 48, 59, 32, 111, 114, 100, 101, 114, 58, 32, 49, 32, 33, 105, 109, 112, 111, 114, 116, 97, 110, 116, 59, 32, 125, 10] : List UInt8) then ((sheet_May.f t208).bind fun t216 => (if t216 = true then ((sheet_Same.f t208 t208).bind fun t217 => (if t217 = true then ((sheet_Same.f t208 ([] : List (S115))).bind fun t218 => (if t218 = true then (some false) else (if (t212.length : Int) = 4 then (if 2 < (t212.length : Int) then (if ((rd_T111 t212 2).f0) = 6 then (if ((rd_T111 t212 2).f1.f1) = 192 then (if 3 < (t212.length : Int) then (some (((rd_T111 t212 3).f1.f1) == 128)) else (none)) else (some false)) else (some false)) else (none)) else (some false)))) else (some false))) else (some false))) else (some false))) else (some false)) = some r := H
 have A2 := Aside0.mk A20
 clear A20
 by_cases c3 : t209 = 0
 ·rw [if_pos c3] at H
  have c3b0 : (t209 == 0) = true := beq_iff_eq.mpr c3
  have c3b1 : (t209 != 0) = false := bne_eq_false_iff_eq.mpr c3
  clear c3
  replace H := Option.bind_eq_some_iff.mp H
  obtain ⟨t215, A40, H⟩ := H
  replace H : (if t215.toList = ([97, 32, 123, 32, 99, 111, 108, 111, 114, 58, 32, 35, 102, 102, 48, 48, 48, 48, 59, 32, 111, 114, 100, 101, 114, 58, 32, 49, 32, 33, 105, 109, 112, 111, 114, 116, 97, 110, 116, 59, 32, 125, 10] : List UInt8) then ((sheet_May.f t208).bind fun t216 => (if t216 = true then ((sheet_Same.f t208 t208).bind fun t217 => (if t217 = true then ((sheet_Same.f t208 ([] : List (S115))).bind fun t218 => (if t218 = true then (some false) else (if (t212.length : Int) = 4 then (if 2 < (t212.length : Int) then (if ((rd_T111 t212 2).f0) = 6 then (if ((rd_T111 t212 2).f1.f1) = 192 then (if 3 < (t212.length : Int) then (some (((rd_T111 t212 3).f1.f1) == 128)) else (none)) else (some false)) else (some false)) else (none)) else (some false)))) else (some false))) else (some false))) else (some false)) = some r := H
  have A4 := Aside0.mk A40
  clear A40
  by_cases c5 : t215.toList = ([97, 32, 123, 32, 99, 111, 108, 111, 114, 58, 32, 35, 102, 102, 48, 48, 48, 48, 59, 32, 111, 114, 100, 101, 114, 58, 32, 49, 32, 33, 105, 109, 112, 111, 114, 116, 97, 110, 116, 59, 32, 125, 10] : List UInt8)
  ·rw [if_pos c5] at H
   have c5b0 : (t215.toList == ([97, 32, 123, 32, 99, 111, 108, 111, 114, 58, 32, 35, 102, 102, 48, 48, 48, 48, 59, 32, 111, 114, 100, 101, 114, 58, 32, 49, 32, 33, 105, 109, 112, 111, 114, 116, 97, 110, 116, 59, 32, 125, 10] : List UInt8)) = true := beq_iff_eq.mpr c5
   have c5b1 : (t215.toList != ([97, 32, 123, 32, 99, 111, 108, 111, 114, 58, 32, 35, 102, 102, 48, 48, 48, 48, 59, 32, 111, 114, 100, 101, 114, 58, 32, 49, 32, 33, 105, 109, 112, 111, 114, 116, 97, 110, 116, 59, 32, 125, 10] : List UInt8)) = false := bne_eq_false_iff_eq.mpr c5
   clear c5
   replace H := Option.bind_eq_some_iff.mp H
   obtain ⟨t216, A60, H⟩ := H
   replace H : (if t216 = true then ((sheet_Same.f t208 t208).bind fun t217 => (if t217 = true then ((sheet_Same.f t208 ([] : List (S115))).bind fun t218 => (if t218 = true then (some false) else (if (t212.length : Int) = 4 then (if 2 < (t212.length : Int) then (if ((rd_T111 t212 2).f0) = 6 then (if ((rd_T111 t212 2).f1.f1) = 192 then (if 3 < (t212.length : Int) then (some (((rd_T111 t212 3).f1.f1) == 128)) else (none)) else (some false)) else (some false)) else (none)) else (some false)))) else (some false))) else (some false)) = some r := H
   have A6 := Aside0.mk A60
   clear A60
   by_cases c7 : t216 = true
   ·subst c7
    have H1 : ((sheet_Same.f t208 t208).bind fun t217 => (if t217 = true then ((sheet_Same.f t208 ([] : List (S115))).bind fun t218 => (if t218 = true then (some false) else (if (t212.length : Int) = 4 then (if 2 < (t212.length : Int) then (if ((rd_T111 t212 2).f0) = 6 then (if ((rd_T111 t212 2).f1.f1) = 192 then (if 3 < (t212.length : Int) then (some (((rd_T111 t212 3).f1.f1) == 128)) else (none)) else (some false)) else (some false)) else (none)) else (some false)))) else (some false))) = some r := by rw [if_pos rfl] at H; exact H
    clear H
    have H := H1
    clear H1
    replace H := Option.bind_eq_some_iff.mp H
    obtain ⟨t217, A80, H⟩ := H
    replace H : (if t217 = true then ((sheet_Same.f t208 ([] : List (S115))).bind fun t218 => (if t218 = true then (some false) else (if (t212.length : Int) = 4 then (if 2 < (t212.length : Int) then (if ((rd_T111 t212 2).f0) = 6 then (if ((rd_T111 t212 2).f1.f1) = 192 then (if 3 < (t212.length : Int) then (some (((rd_T111 t212 3).f1.f1) == 128)) else (none)) else (some false)) else (some false)) else (none)) else (some false)))) else (some false)) = some r := H
    have A8 := Aside0.mk A80
    clear A80
    by_cases c9 : t217 = true
    ·subst c9
     have H1 : ((sheet_Same.f t208 ([] : List (S115))).bind fun t218 => (if t218 = true then (some false) else (if (t212.length : Int) = 4 then (if 2 < (t212.length : Int) then (if ((rd_T111 t212 2).f0) = 6 then (if ((rd_T111 t212 2).f1.f1) = 192 then (if 3 < (t212.length : Int) then (some (((rd_T111 t212 3).f1.f1) == 128)) else (none)) else (some false)) else (some false)) else (none)) else (some false)))) = some r := by rw [if_pos rfl] at H; exact H
     clear H
     have H := H1
     clear H1
     replace H := Option.bind_eq_some_iff.mp H
     obtain ⟨t218, A100, H⟩ := H
     replace H : (if t218 = true then (some false) else (if (t212.length : Int) = 4 then (if 2 < (t212.length : Int) then (if ((rd_T111 t212 2).f0) = 6 then (if ((rd_T111 t212 2).f1.f1) = 192 then (if 3 < (t212.length : Int) then (some (((rd_T111 t212 3).f1.f1) == 128)) else (none)) else (some false)) else (some false)) else (none)) else (some false))) = some r := H
     have A10 := Aside0.mk A100
     clear A100
     by_cases c11 : t218 = true
     ·subst c11
      have H1 : (some false) = some r := by rw [if_pos rfl] at H; exact H
      clear H
      have H := H1
      clear H1
      exact absurd ((Option.some.inj H).trans hrt) (by decide)
     ·replace c11 := Bool.eq_false_iff.mpr c11
      subst c11
      have H1 : (if (t212.length : Int) = 4 then (if 2 < (t212.length : Int) then (if ((rd_T111 t212 2).f0) = 6 then (if ((rd_T111 t212 2).f1.f1) = 192 then (if 3 < (t212.length : Int) then (some (((rd_T111 t212 3).f1.f1) == 128)) else (none)) else (some false)) else (some false)) else (none)) else (some false)) = some r := by rw [if_neg (show ¬ (false = true) by decide)] at H; exact H
      clear H
      have H := H1
      clear H1
      by_cases c19 : (t212.length : Int) = 4
      ·rw [if_pos c19] at H
       have c19b0 : ((t212.length : Int) == 4) = true := beq_iff_eq.mpr c19
       have c19b1 : ((t212.length : Int) != 4) = false := bne_eq_false_iff_eq.mpr c19
       clear c19
       by_cases c20 : 2 < (t212.length : Int)
       ·rw [if_pos c20] at H
        have c20b0 : decide (2 < (t212.length : Int)) = true := decide_eq_true c20
        have c20b1 : decide (2 < t212.length) = true := decide_eq_true (by omega)
        clear c20
        by_cases c21 : ((rd_T111 t212 2).f0) = 6
        ·rw [if_pos c21] at H
         have c21b0 : (((rd_T111 t212 2).f0) == 6) = true := beq_iff_eq.mpr c21
         have c21b1 : (((rd_T111 t212 2).f0) != 6) = false := bne_eq_false_iff_eq.mpr c21
         clear c21
         by_cases c22 : ((rd_T111 t212 2).f1.f1) = 192
         ·rw [if_pos c22] at H
          have c22b0 : (((rd_T111 t212 2).f1.f1) == 192) = true := beq_iff_eq.mpr c22
          have c22b1 : (((rd_T111 t212 2).f1.f1) != 192) = false := bne_eq_false_iff_eq.mpr c22
          clear c22
          by_cases c23 : 3 < (t212.length : Int)
          ·rw [if_pos c23] at H
           have c23b0 : decide (3 < (t212.length : Int)) = true := decide_eq_true c23
           have c23b1 : decide (3 < t212.length) = true := decide_eq_true (by omega)
           clear c23
           obtain rfl := Option.some.inj H; clear hrt; try clear H
           go_enter Tryz.func24, Tryz.ntmps24
           go_wp2_with (first | ((with_reducible refine gate_callee (f := 27) rfl ?_); refine goesL_ (some 5) rfl rfl Tryz.func27 (by kernel_rfl) rfl #[.string (⟨#[97, 123, 99, 111, 108, 111, 114, 58, 82, 69, 68, 59, 120, 58, 121, 59, 111, 114, 100, 101, 114, 58, 49, 33, 105, 109, 112, 111, 114, 116, 97, 110, 116, 125, 47, 42, 122, 42, 47, 98, 44, 123, 125]⟩ : ByteArray)] rfl (by (try simp only [List.map_toArray, List.map_cons, List.map_nil]); first | rfl) ?_; (with_reducible refine (sheet_Read.calls k (⟨#[97, 123, 99, 111, 108, 111, 114, 58, 82, 69, 68, 59, 120, 58, 121, 59, 111, 114, 100, 101, 114, 58, 49, 33, 105, 109, 112, 111, 114, 116, 97, 110, 116, 125, 47, 42, 122, 42, 47, 98, 44, 123, 125]⟩ : ByteArray) t208 t209 _ A1.out (HMX.out.below HB.out)).mono ?_); rintro e w24 ⟨v210, rfl, ho0, hb⟩; refine ⟨_, rfl, ?_⟩; have n0_ := Aside0.mk (Kd.R_lower ho0 (below_size HB.out)); have n1_ := Aside0.mk (below_step HB.out hb); clear HB; have HO211 := n0_; have HB := n1_; clear n0_ n1_; (try clear hb); (try clear hb2); (try clear hk); (try clear hi); (try clear ho0)) | ((with_reducible refine gate_callee (f := 32) rfl ?_); refine goesL_ (some 8) rfl rfl Tryz.func32 (by kernel_rfl) rfl #[.string (⟨#[109, 97, 114, 103, 105, 110, 58, 32, 49, 112, 120, 32, 50, 112, 120, 32, 51, 112, 120, 59, 32, 112, 97, 100, 100, 105, 110, 103, 58, 32, 49, 112, 120, 32, 120]⟩ : ByteArray)] rfl (by (try simp only [List.map_toArray, List.map_cons, List.map_nil]); first | rfl) ?_; (with_reducible refine (sheet_Decls.calls k (⟨#[109, 97, 114, 103, 105, 110, 58, 32, 49, 112, 120, 32, 50, 112, 120, 32, 51, 112, 120, 59, 32, 112, 97, 100, 100, 105, 110, 103, 58, 32, 49, 112, 120, 32, 120]⟩ : ByteArray) t212 _ A2.out).mono ?_); rintro e w25 ⟨v213, rfl, ho0, hb⟩; refine ⟨_, rfl, ?_⟩; have n0_ := Aside0.mk (Kd.R_elder' HO211.out (Kd.R_base ho0) hb); have n1_ := Aside0.mk (Kd.R_lower ho0 (below_size HB.out)); have n2_ := Aside0.mk (below_step HB.out hb); clear HO211; clear HB; have HO211 := n0_; have HO214 := n1_; have HB := n2_; clear n0_ n1_ n2_; (try clear hb); (try clear hb2); (try clear hk); (try clear hi); (try clear ho0); obtain ⟨Ao26, co26, eo26⟩ := Kd.R_slice HO211.out; subst eo26) | (go_at_call 36; (with_reducible refine (sheet_Print.calls _ _ t208 t215 _ ?side1 ?side2 A4.out (HMX.out.below HB.out)).mono ?_); (case side1 => repeat (first | exact (Kd.R_reads' HO211.out).2.2)); (case side2 => exact (Kd.R_reads' HO211.out).2.1); rintro e w27 ⟨rfl, hb⟩; have n0_ := Aside0.mk (Kd.R_below HO211.out hb); have n1_ := Aside0.mk (Kd.R_below HO214.out hb); have n2_ := Aside0.mk (below_step HB.out hb); clear HO211; clear HO214; clear HB; have HO211 := n0_; have HO214 := n1_; have HB := n2_; clear n0_ n1_ n2_; (try clear hb); (try clear hb2); (try clear hk); (try clear hi)) | (go_at_call 34; (with_reducible refine (sheet_May.calls _ _ t208 true _ ?side1 ?side2 A6.out).mono ?_); (case side1 => repeat (first | exact (Kd.R_reads' HO211.out).2.2)); (case side2 => exact (Kd.R_reads' HO211.out).2.1); rintro e w28 ⟨rfl, hb⟩; have n0_ := Aside0.mk (Kd.R_below HO211.out hb); have n1_ := Aside0.mk (Kd.R_below HO214.out hb); have n2_ := Aside0.mk (below_step HB.out hb); clear HO211; clear HO214; clear HB; have HO211 := n0_; have HO214 := n1_; have HB := n2_; clear n0_ n1_ n2_; (try clear hb); (try clear hb2); (try clear hk); (try clear hi)) | (go_at_call 38; (with_reducible refine (sheet_Same.calls _ _ t208 _ _ t208 true _ ?side1 ?side2 ?side3 ?side4 A8.out).mono ?_); (case side1 => repeat (first | exact (Kd.R_reads' HO211.out).2.2)); (case side2 => exact (Kd.R_reads' HO211.out).2.1); (case side3 => repeat (first | exact (Kd.R_reads' HO211.out).2.2)); (case side4 => exact (Kd.R_reads' HO211.out).2.1); rintro e w29 ⟨rfl, hb⟩; have n0_ := Aside0.mk (Kd.R_below HO211.out hb); have n1_ := Aside0.mk (Kd.R_below HO214.out hb); have n2_ := Aside0.mk (below_step HB.out hb); clear HO211; clear HO214; clear HB; have HO211 := n0_; have HO214 := n1_; have HB := n2_; clear n0_ n1_ n2_; (try clear hb); (try clear hb2); (try clear hk); (try clear hi)) | (go_at_call 38; (refine (sheet_Same.calls _ _ t208 _ _ ([] : List (S115)) false _ ?side1 ?side2 ?side3 ?side4 A10.out).mono ?_); (case side1 => repeat (first | exact (Kd.R_reads' HO211.out).2.2)); (case side2 => exact (Kd.R_reads' HO211.out).2.1); (case side3 => exact Kd.C_nil _ _); (case side4 => exact Nat.le_refl _); rintro e w30 ⟨rfl, hb⟩; have n0_ := Aside0.mk (Kd.R_below HO211.out hb); have n1_ := Aside0.mk (Kd.R_below HO214.out hb); have n2_ := Aside0.mk (below_step HB.out hb); clear HO211; clear HO214; clear HB; have HO211 := n0_; have HO214 := n1_; have HB := n2_; clear n0_ n1_ n2_; (try clear hb); (try clear hb2); (try clear hk); (try clear hi); obtain ⟨Ao31, co31, eo31⟩ := Kd.R_slice HO214.out; subst eo31; have p219 : 0 ≤ (2 : Int) := (by omega); have q219 : 2 < (t212.length : Int) := of_decide_eq_true (by first | (with_reducible assumption)); obtain ⟨ad219, e219, hx219_0, hx219_1, hx219_2, hx219_3⟩ := at_T111 (Kd.R_reads' HO214.out).2.2 2 p219 q219; cases e219; (try simp only [show (2 : Int).toNat = 2 from rfl, Nat.reduceMul, Nat.reduceEqDiff, Go.Addr.add, ↓reduceIte] at hx219_0); (try simp only [show (2 : Int).toNat = 2 from rfl, Nat.reduceMul, Nat.reduceEqDiff, Go.Addr.add, ↓reduceIte] at hx219_1); (try simp only [show (2 : Int).toNat = 2 from rfl, Nat.reduceMul, Nat.reduceEqDiff, Go.Addr.add, ↓reduceIte] at hx219_2); (try simp only [show (2 : Int).toNat = 2 from rfl, Nat.reduceMul, Nat.reduceEqDiff, Go.Addr.add, ↓reduceIte] at hx219_3); have qi219 : (2 < t212.length) = True := eq_true (by omega); (try rw [show ((2 : Int)).toNat = 2 from rfl] at hx219_0); (try rw [show 2 * 4 = 8 from rfl] at hx219_0); (try rw [show ((2 : Int)).toNat = 2 from rfl] at hx219_1); (try rw [show 2 * 4 = 8 from rfl] at hx219_1); (try rw [show ((2 : Int)).toNat = 2 from rfl] at hx219_2); (try rw [show 2 * 4 = 8 from rfl] at hx219_2); (try rw [show ((2 : Int)).toNat = 2 from rfl] at hx219_3); (try rw [show 2 * 4 = 8 from rfl] at hx219_3); replace p219 := eq_true p219; replace q219 := eq_true q219; have p220 : 0 ≤ (2 : Int) := (by omega); have q220 : 2 < (t212.length : Int) := of_decide_eq_true (by first | (with_reducible assumption)); obtain ⟨ad220, e220, hx220_0, hx220_1, hx220_2, hx220_3⟩ := at_T111 (Kd.R_reads' HO214.out).2.2 2 p220 q220; obtain rfl : ad219 = ad220 := (by injection e220); (try simp only [show (2 : Int).toNat = 2 from rfl, Nat.reduceMul, Nat.reduceEqDiff, Go.Addr.add, ↓reduceIte] at hx220_0); (try simp only [show (2 : Int).toNat = 2 from rfl, Nat.reduceMul, Nat.reduceEqDiff, Go.Addr.add, ↓reduceIte] at hx220_1); (try simp only [show (2 : Int).toNat = 2 from rfl, Nat.reduceMul, Nat.reduceEqDiff, Go.Addr.add, ↓reduceIte] at hx220_2); (try simp only [show (2 : Int).toNat = 2 from rfl, Nat.reduceMul, Nat.reduceEqDiff, Go.Addr.add, ↓reduceIte] at hx220_3); have qi220 : (2 < t212.length) = True := eq_true (by omega); (try rw [show ((2 : Int)).toNat = 2 from rfl] at hx220_0); (try rw [show 2 * 4 = 8 from rfl] at hx220_0); (try rw [show ((2 : Int)).toNat = 2 from rfl] at hx220_1); (try rw [show 2 * 4 = 8 from rfl] at hx220_1); (try rw [show ((2 : Int)).toNat = 2 from rfl] at hx220_2); (try rw [show 2 * 4 = 8 from rfl] at hx220_2); (try rw [show ((2 : Int)).toNat = 2 from rfl] at hx220_3); (try rw [show 2 * 4 = 8 from rfl] at hx220_3); replace p220 := eq_true p220; replace q220 := eq_true q220; have p221 : 0 ≤ (3 : Int) := (by omega); have q221 : 3 < (t212.length : Int) := of_decide_eq_true (by first | (with_reducible assumption)); obtain ⟨ad221, e221, hx221_0, hx221_1, hx221_2, hx221_3⟩ := at_T111 (Kd.R_reads' HO214.out).2.2 3 p221 q221; obtain rfl : ad219 = ad221 := (by injection e221); (try simp only [show (3 : Int).toNat = 3 from rfl, Nat.reduceMul, Nat.reduceEqDiff, Go.Addr.add, ↓reduceIte] at hx221_0); (try simp only [show (3 : Int).toNat = 3 from rfl, Nat.reduceMul, Nat.reduceEqDiff, Go.Addr.add, ↓reduceIte] at hx221_1); (try simp only [show (3 : Int).toNat = 3 from rfl, Nat.reduceMul, Nat.reduceEqDiff, Go.Addr.add, ↓reduceIte] at hx221_2); (try simp only [show (3 : Int).toNat = 3 from rfl, Nat.reduceMul, Nat.reduceEqDiff, Go.Addr.add, ↓reduceIte] at hx221_3); have qi221 : (3 < t212.length) = True := eq_true (by omega); (try rw [show ((3 : Int)).toNat = 3 from rfl] at hx221_0); (try rw [show 3 * 4 = 12 from rfl] at hx221_0); (try rw [show ((3 : Int)).toNat = 3 from rfl] at hx221_1); (try rw [show 3 * 4 = 12 from rfl] at hx221_1); (try rw [show ((3 : Int)).toNat = 3 from rfl] at hx221_2); (try rw [show 3 * 4 = 12 from rfl] at hx221_2); (try rw [show ((3 : Int)).toNat = 3 from rfl] at hx221_3); (try rw [show 3 * 4 = 12 from rfl] at hx221_3); replace p221 := eq_true p221; replace q221 := eq_true q221))
           go_ret
           exact ⟨by first | rfl, by exact HB.out⟩
          ·rw [if_neg c23] at H
           exact absurd H (by simp)
         ·rw [if_neg c22] at H
          have c22b0 : (((rd_T111 t212 2).f1.f1) == 192) = false := beq_eq_false_iff_ne.mpr c22
          have c22b1 : (((rd_T111 t212 2).f1.f1) != 192) = true := bne_iff_ne.mpr c22
          exact absurd ((Option.some.inj H).trans hrt) (by decide)
        ·rw [if_neg c21] at H
         have c21b0 : (((rd_T111 t212 2).f0) == 6) = false := beq_eq_false_iff_ne.mpr c21
         have c21b1 : (((rd_T111 t212 2).f0) != 6) = true := bne_iff_ne.mpr c21
         exact absurd ((Option.some.inj H).trans hrt) (by decide)
       ·rw [if_neg c20] at H
        exact absurd H (by simp)
      ·rw [if_neg c19] at H
       have c19b0 : ((t212.length : Int) == 4) = false := beq_eq_false_iff_ne.mpr c19
       have c19b1 : ((t212.length : Int) != 4) = true := bne_iff_ne.mpr c19
       exact absurd ((Option.some.inj H).trans hrt) (by decide)
    ·replace c9 := Bool.eq_false_iff.mpr c9
     subst c9
     have H1 : (some false) = some r := by rw [if_neg (show ¬ (false = true) by decide)] at H; exact H
     clear H
     have H := H1
     clear H1
     exact absurd ((Option.some.inj H).trans hrt) (by decide)
   ·replace c7 := Bool.eq_false_iff.mpr c7
    subst c7
    have H1 : (some false) = some r := by rw [if_neg (show ¬ (false = true) by decide)] at H; exact H
    clear H
    have H := H1
    clear H1
    exact absurd ((Option.some.inj H).trans hrt) (by decide)
  ·rw [if_neg c5] at H
   have c5b0 : (t215.toList == ([97, 32, 123, 32, 99, 111, 108, 111, 114, 58, 32, 35, 102, 102, 48, 48, 48, 48, 59, 32, 111, 114, 100, 101, 114, 58, 32, 49, 32, 33, 105, 109, 112, 111, 114, 116, 97, 110, 116, 59, 32, 125, 10] : List UInt8)) = false := beq_eq_false_iff_ne.mpr c5
   have c5b1 : (t215.toList != ([97, 32, 123, 32, 99, 111, 108, 111, 114, 58, 32, 35, 102, 102, 48, 48, 48, 48, 59, 32, 111, 114, 100, 101, 114, 58, 32, 49, 32, 33, 105, 109, 112, 111, 114, 116, 97, 110, 116, 59, 32, 125, 10] : List UInt8)) = true := bne_iff_ne.mpr c5
   exact absurd ((Option.some.inj H).trans hrt) (by decide)
 ·rw [if_neg c3] at H
  have c3b0 : (t209 == 0) = false := beq_eq_false_iff_ne.mpr c3
  have c3b1 : (t209 != 0) = true := bne_iff_ne.mpr c3
  exact absurd ((Option.some.inj H).trans hrt) (by decide)

/-! ### scrimref10_SameDecls: function 30 -/
end Go.Proofs.YtolfpgccebdlpaaGreatDoor.HT
namespace Go.Proofs.YtolfpgccebdlpaaGreatDoor.HT
open Go.RowKit Go.Proofs.YtolfpgccebdlpaaGreatDoorW.PrintWords Go.Proofs.YtolfpgccebdlpaaGreatDoorW.PrintLast Go.Proofs.YtolfpgccebdlpaaGreatDoorW.PrintMore
attribute [local go_sem] max2_int min2_int max_two min_two max_three min_three max_four min_four   -- for this text's walks alone
set_option linter.unusedVariables false
set_option linter.unusedSimpArgs false

/-! ### scrimlaw10_decls: function 31 -/
def scrimlaw10_decls.l0 : Nat → List (S123) → List (S111) → Int → Int → Option ((List (S123)))
 | 0, _, _, _, _ => none
 | k + 1, x3, x7, x8, x9 => if x9 < x8 then (if 0 ≤ x9 then (if x9 < (x7.length : Int) then (if x3.length < 4398046511104 then (scrimlaw10_decls.l0 k (x3 ++ [(⟨(rd_T111 x7 x9).f0, (⟨(rd_T111 x7 x9).f1.f0, (rd_T111 x7 x9).f1.f1⟩ : S109), (rd_T111 x7 x9).f2⟩ : S123)]) x7 x8 (wrap64 (x9 + 1))) else (none)) else (none)) else (none)) else (some x3)
def scrimlaw10_decls.f (k : Nat) (l0 : List (S111)) : Option ((List (S123))) := scrimlaw10_decls.l0 k (([] : List (S123))) l0 (l0.length : Int) 0
set_option maxHeartbeats 8000000 in
set_option maxRecDepth 100000 in
theorem scrimlaw10_decls.calls (k : Nat) (A0 : Option Addr) (c0 : Nat) (l0 : List (S111)) (r : List (S123)) (w : World) (hr0 : Kd.C k111 w A0 l0.length l0) (hc0 : l0.length ≤ c0) (h : scrimlaw10_decls.f k l0 = some r) :
  Calls Tryz.prog 31 #[.slice A0 l0.length c0] w fun e w' => ∃ v0_ : Value, e = .returned (v0_) ∧ Kd.R k123 123 w' w.heap.size (fun _ => True) v0_ r ∧ Below w.heap.size w w' := by
 have hu111 := Tryz.underlying111
 have HR0 := Aside0.mk hr0
 have HC0 := Aside0.mk hc0
 clear hr0 hc0
 have HB := Aside0.mk (Below.refl w.heap.size w)
 have H : (scrimlaw10_decls.l0 k (([] : List (S123))) l0 (l0.length : Int) 0) = some r := h
 clear h
 obtain ⟨y224, hy224⟩ : ∃ y_ : List (S123), y_ = (([] : List (S123))) := ⟨_, rfl⟩
 replace H : (scrimlaw10_decls.l0 k y224 l0 (l0.length : Int) 0) = some r := by first | (rw [hy224]; with_reducible exact H)
 have Ny224 := Aside0.mk hy224
 clear hy224
 have H' := Aside0.mk H
 clear H
 go_enter Tryz.func31, Tryz.ntmps31
 go_wp2_with (first | ((with_reducible refine gate_dst (N := 6) rfl ?_); refine Kd.R_lit k123 _ 123 ?hg (N := 6) ?hd (xs := ([] : List (S123))) (inner := []) (ok := fun _ => True) (okp := fun _ => True) ?hr ?hp (fun _ hk => hk) trivial (Below.refl _ _) (Nat.le_refl _) (by simp) ?_; (case hd => rfl); (case hg => rfl); (case hr => first | (go_simp; done)); (case hp => exact (Reps.none _ _)); intro v225 w2 ho3 hb hg_ hnew_; clear hg_ hnew_; (first | rw [← Ny224.out] at ho3); have n0_ := Aside0.mk (Kd.R_lower ho3 (below_size HB.out)); have n1_ := Aside0.mk (below_step HB.out hb); clear HB; have HO226 := n0_; have HB := n1_; clear n0_ n1_; clear hb ho3))
 go_loopg [3, 9] k (fun kq v3 v9 w' => ∃ (x3_1 : List (S123)) (x9_1 : Int), v9 = .int .i64 x9_1 ∧ Aside0 (scrimlaw10_decls.l0 kq x3_1 l0 (l0.length : Int) x9_1 = some r) ∧ Aside0 (kq ≤ k) ∧ Aside0 (Kd.R k123 123 w' w.heap.size (fun _ => True) v3 x3_1) ∧ Aside0 (Below w.heap.size w w'))
 case atStart => exact ⟨(y224), (0), (by first | rfl), H', ⟨Nat.le_refl _⟩, ⟨by exact HO226.out⟩, ⟨by exact HB.out⟩⟩
 case round =>
  clear H'
  try clear p2
  try clear c3
  obtain ⟨x3_1, x9_1, rfl, HA, HK1, HO_3, HB⟩ := hrel
  cases gk with
  | zero => exact absurd HA.out (by simp [scrimlaw10_decls.l0])
  | succ k1 =>
   have H := HA.out
   clear HA
   simp only [scrimlaw10_decls.l0] at H
   by_cases c4 : x9_1 < (l0.length : Int)
   ·rw [if_pos c4] at H
    have c4b0 : decide (x9_1 < (l0.length : Int)) = true := decide_eq_true c4
    clear c4
    by_cases c5 : 0 ≤ x9_1
    ·rw [if_pos c5] at H
     have c5b0 : decide (0 ≤ x9_1) = true := decide_eq_true c5
     clear c5
     by_cases c6 : x9_1 < (l0.length : Int)
     ·rw [if_pos c6] at H
      have c6b0 : decide (x9_1 < (l0.length : Int)) = true := decide_eq_true c6
      clear c6
      by_cases c7 : x3_1.length < 4398046511104
      ·rw [if_pos c7] at H
       have LMc7 := Aside0.mk c7
       clear c7
       obtain ⟨y229, hy229⟩ : ∃ y_ : List (S123), y_ = (x3_1 ++ [(⟨(rd_T111 l0 x9_1).f0, (⟨(rd_T111 l0 x9_1).f1.f0, (rd_T111 l0 x9_1).f1.f1⟩ : S109), (rd_T111 l0 x9_1).f2⟩ : S123)]) := ⟨_, rfl⟩
       replace H : (scrimlaw10_decls.l0 k1 y229 l0 (l0.length : Int) (wrap64 (x9_1 + 1))) = some r := by first | (rw [hy229]; with_reducible exact H)
       have Ny229 := Aside0.mk hy229
       clear hy229
       have H' := Aside0.mk H
       clear H
       have p227 : 0 ≤ (x9_1 : Int) := of_decide_eq_true (by first | (with_reducible assumption))
       have q227 : x9_1 < (l0.length : Int) := of_decide_eq_true (by first | (with_reducible assumption))
       obtain ⟨ad227, e227, hx227_0, hx227_1, hx227_2, hx227_3⟩ := at_T111 HR0.out x9_1 p227 q227
       cases e227
       replace hx227_0 := (HB.out.cell (World.block_lt_of_cell? w _ hx227_0)).trans hx227_0
       replace hx227_1 := (HB.out.cell (World.block_lt_of_cell? w _ hx227_1)).trans hx227_1
       replace hx227_2 := (HB.out.cell (World.block_lt_of_cell? w _ hx227_2)).trans hx227_2
       replace hx227_3 := (HB.out.cell (World.block_lt_of_cell? w _ hx227_3)).trans hx227_3
       replace p227 := eq_true p227
       replace q227 := eq_true q227
       go_wp2_with (first | ((with_reducible refine gate_dst (N := 5) rfl ?_); refine box_event ?hg (N := 5) ?hd (cs := #[.int .i64 0, .int .i64 0, .int .i64 0, .bool false]) (t := 111) ?hr ?_; (case hd => rfl); (case hg => rfl); (case hr => first | (go_simp; done)); intro gb228 hg w8 hbox hb; have n0_ := Aside0.mk (Kd.R_below HO_3.out hb); have n1_ := Aside0.mk (below_step HB.out hb); have n2_ := Aside0.mk (hbox); have n3_ := Aside0.mk ((by rw [hg]; exact (below_size HB.out) : w.heap.size ≤ gb228)); have n4_ := Aside0.mk ((by rw [hg]; exact (below_size HB.out) : w.heap.size ≤ gb228)); clear HO_3; clear HB; have HO_3 := n0_; have HB := n1_; have BK228 := n2_; have GW228 := n3_; have GE228 := n4_; clear n0_ n1_ n2_ n3_ n4_; clear hb hbox hg; have hcz9_0 : w8.cell? ⟨gb228, 0, none⟩ = some (.int .i64 0) := (blk_cell BK228.out 0).trans rfl; have hcz9_1 : w8.cell? ⟨gb228, 1, none⟩ = some (.int .i64 0) := (blk_cell BK228.out 1).trans rfl; have hcz9_2 : w8.cell? ⟨gb228, 2, none⟩ = some (.int .i64 0) := (blk_cell BK228.out 2).trans rfl; have hcz9_3 : w8.cell? ⟨gb228, 3, none⟩ = some (.bool false) := (blk_cell BK228.out 3).trans rfl; have hfz9_0 := blk_frozen BK228.out 0; have hfz9_1 := blk_frozen BK228.out 1; have hfz9_2 := blk_frozen BK228.out 2; have hfz9_3 := blk_frozen BK228.out 3) | ((with_reducible refine gate_builtin (b := .append) (xs := #[.tmp 13, .tmp 15]) rfl ?_); at_builtin; refine Kd.R_append k123 (w0 := w) w.heap.size rfl (.tmp 13) (.tmp 15) 61 123 (.agg #[(.int .i64 0), (.int .i64 0), (.int .i64 0), (.bool false)]) 32 rfl Tryz.underlying61 info123 rfl (by decide) (by omega) u3 x3_1 (⟨(rd_T111 l0 x9_1).f0, (⟨(rd_T111 l0 x9_1).f1.f0, (rd_T111 l0 x9_1).f1.f1⟩ : S109), (rd_T111 l0 x9_1).f2⟩ : S123) [.int .i64 ((rd_T111 l0 x9_1).f0), .int .i64 ((rd_T111 l0 x9_1).f1.f0), .int .i64 ((rd_T111 l0 x9_1).f1.f1), .bool ((rd_T111 l0 x9_1).f2)] (fun _ => True) (fun _ => False) rfl (by first | (go_simp; done)) ?aP (fun _ hk => hk.elim) ?aF ?aO ?aB ?aS ?aL ?_; (case aP => exact k123_mkM _ _ _ (⟨(rd_T111 l0 x9_1).f0, (⟨(rd_T111 l0 x9_1).f1.f0, (rd_T111 l0 x9_1).f1.f1⟩ : S109), (rd_T111 l0 x9_1).f2⟩ : S123)); (case aB => exact (by repeat (with_reducible first | exact HB.out | refine below_set ?_ GE228.out))); (case aF => exact (fun _ _ => trivial)); (case aO => exact (by exact Kd.R_mono (Kd.R_far (p := ⟨gb228, 3, none⟩) (Kd.R_far (p := ⟨gb228, 2, none⟩) (Kd.R_far (p := ⟨gb228, 1, none⟩) (Kd.R_far (p := ⟨gb228, 0, none⟩) (Kd.R_types HO_3.out BK228.out (by decide)) (fun _ hk => hk.2) (.int .i64 ((rd_T111 l0 x9_1).f0))) (fun _ hk => hk.2) (.int .i64 ((rd_T111 l0 x9_1).f1.f0))) (fun _ hk => hk.2) (.int .i64 ((rd_T111 l0 x9_1).f1.f1))) (fun _ hk => hk.2) (.bool ((rd_T111 l0 x9_1).f2))) (fun _ hk => trivial))); (case aS => exact (below_size (by repeat (with_reducible first | exact HB.out | refine below_set ?_ GE228.out)))); (case aL => have := LMc7.out; omega); intro v230 w10 ho hb hg hat; rw [← Ny229.out] at ho; have n0_ := Aside0.mk (blk_grown (g := gb228) (o := .cells #[.int .i64 ((rd_T111 l0 x9_1).f0), .int .i64 ((rd_T111 l0 x9_1).f1.f0), .int .i64 ((rd_T111 l0 x9_1).f1.f1), .bool ((rd_T111 l0 x9_1).f2)] 111 (0, 0)) (by refine blk_put (cs := #[.int .i64 ((rd_T111 l0 x9_1).f0), .int .i64 ((rd_T111 l0 x9_1).f1.f0), .int .i64 ((rd_T111 l0 x9_1).f1.f1), .bool false]) ?_ 3 _ rfl; refine blk_put (cs := #[.int .i64 ((rd_T111 l0 x9_1).f0), .int .i64 ((rd_T111 l0 x9_1).f1.f0), .int .i64 0, .bool false]) ?_ 2 _ rfl; refine blk_put (cs := #[.int .i64 ((rd_T111 l0 x9_1).f0), .int .i64 0, .int .i64 0, .bool false]) ?_ 1 _ rfl; refine blk_put (cs := #[.int .i64 0, .int .i64 0, .int .i64 0, .bool false]) ?_ 0 _ rfl; exact BK228.out) hg (Kd.R_ne HO_3.out BK228.out (by decide))); have n1_ := Aside0.mk (hb); have n2_ := Aside0.mk (ho); clear BK228; clear HB; clear HO_3; have BK228 := n0_; have HB := n1_; have HO231 := n2_; clear n0_ n1_ n2_; clear ho hb hg hat))
       go_roundg k1
       case measure => have := HK1.out; omega
       case rel => exact ⟨(y229), (wrap64 (x9_1 + 1)), (by first | rfl), H', ⟨by have := HK1.out; omega⟩, ⟨by exact HO231.out⟩, ⟨by exact HB.out⟩⟩
      ·rw [if_neg c7] at H
       exact absurd H (by simp)
     ·rw [if_neg c6] at H
      exact absurd H (by simp)
    ·rw [if_neg c5] at H
     exact absurd H (by simp)
   ·rw [if_neg c4] at H
    have c4b0 : decide (x9_1 < (l0.length : Int)) = false := decide_eq_false c4
    clear c4
    obtain rfl := Option.some.inj H
    go_wp2
    go_ret
    exact ⟨_, by first | rfl, by exact HO_3.out, by exact HB.out⟩

end Go.Proofs.YtolfpgccebdlpaaGreatDoor.HT
