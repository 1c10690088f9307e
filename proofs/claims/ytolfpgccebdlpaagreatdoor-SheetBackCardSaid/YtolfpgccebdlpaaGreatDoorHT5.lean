/- scrimlaw10.own: what it leans on; no condition beside those that each theorem states. -/
import Derived.Test.YtolfpgccebdlpaaGreatDoorHT0
import Derived.Test.YtolfpgccebdlpaaGreatDoorVmB
import Derived.Test.YtolfpgccebdlpaaGreatDoorMay
import Derived.Test.YtolfpgccebdlpaaGreatDoorShS
namespace Go.Proofs.YtolfpgccebdlpaaGreatDoor.HT
open Go.RowKit Go.Proofs.YtolfpgccebdlpaaGreatDoorW.PrintWords Go.Proofs.YtolfpgccebdlpaaGreatDoorW.PrintLast Go.Proofs.YtolfpgccebdlpaaGreatDoorW.PrintMore
attribute [local go_sem] max2_int min2_int max_two min_two max_three min_three max_four min_four   -- for this text's walks alone
set_option linter.unusedVariables false
set_option linter.unusedSimpArgs false

attribute [local go_sem high] eqA123
/-! ### scan_Blocks: function 64 -/
def scan_Blocks.l0 : Nat → ByteArray → List (S119) → Option ((List (S119)))
 | 0, _, _ => none
 | k + 1, x0, x3 => (strings_IndexAny.f x0 (⟨#[123, 125]⟩ : ByteArray)).bind fun t183 => (if t183 < 0 then (some x3) else (if 0 ≤ t183 then (if t183 < (x0.size : Int) then (if (bt x0 t183) = 125 then (if 0 ≤ (wrap64 (t183 + 1)) then (if (wrap64 (t183 + 1)) ≤ (x0.size : Int) then (scan_Blocks.l0 k (x0.extract ((wrap64 (t183 + 1)) : Int).toNat x0.size) x3) else (none)) else (none)) else (if 0 ≤ (wrap64 (t183 + 1)) then (if (wrap64 (t183 + 1)) ≤ (x0.size : Int) then ((strings_Cut.f (x0.extract ((wrap64 (t183 + 1)) : Int).toNat x0.size) (⟨#[125]⟩ : ByteArray)).bind fun bt184 => (if bt184.2.2 = true then (if t183 ≤ (x0.size : Int) then ((scan_Trim.f (x0.extract 0 (t183 : Int).toNat)).bind fun t187 => ((scan_Trim.f bt184.1).bind fun t188 => (if x3.length < 4398046511104 then (scan_Blocks.l0 k bt184.2.1 (x3 ++ [(⟨t187, t188⟩ : S119)])) else (none)))) else (none)) else (some x3))) else (none)) else (none))) else (none)) else (none)))
def scan_Blocks.f (k : Nat) (a0 : ByteArray) : Option ((List (S119))) := scan_Blocks.l0 k a0 ([] : List (S119))
theorem scan_Blocks.mono_l : ∀ k, (∀ y0 y1, LeO (scan_Blocks.l0 k y0 y1) (scan_Blocks.l0 (k + 1) y0 y1))
 | 0 => fun _ _ r h => by simp [scan_Blocks.l0] at h
 | k + 1 => by
  have ih0 := scan_Blocks.mono_l k
  ·intro y0 y1
   unfold scan_Blocks.l0
   repeat' first
   | (with_reducible exact ih0 _ _)
   | (with_reducible exact LeO.refl _)
   | (with_reducible exact LeO.none _)
   | (with_reducible refine LeO.ite ?_ ?_)
   | (with_reducible refine LeO.bind ?_ (fun _ => ?_))
   | exact ih0 _ _
   | exact LeO.none _
   | refine LeO.ite ?_ ?_
   | refine LeO.bind ?_ (fun _ => ?_)
theorem scan_Blocks.mono : ∀ a0 k, LeO (scan_Blocks.f k a0) (scan_Blocks.f (k + 1) a0) := by
 intro a0 k
 have ih0 := scan_Blocks.mono_l k
 unfold scan_Blocks.f
 repeat' first
   | (with_reducible exact ih0 _ _)
   | (with_reducible exact LeO.refl _)
   | (with_reducible exact LeO.none _)
   | (with_reducible refine LeO.ite ?_ ?_)
   | (with_reducible refine LeO.bind ?_ (fun _ => ?_))
   | exact ih0 _ _
   | exact LeO.none _
   | refine LeO.ite ?_ ?_
   | refine LeO.bind ?_ (fun _ => ?_)
set_option maxHeartbeats 8000000 in
set_option maxRecDepth 100000 in
theorem scan_Blocks.calls (k : Nat) (a0 : ByteArray) (r : List (S119)) (w : World) (h : scan_Blocks.f k a0 = some r) :
  Calls Tryz.prog 64 #[.string a0] w fun e w' => ∃ v0_ : Value, e = .returned (v0_) ∧ Kd.R k119 119 w' w.heap.size (fun _ => True) v0_ r ∧ Below w.heap.size w w' := by
 have hu119 := Tryz.underlying119
 have HB := Aside0.mk (Below.refl w.heap.size w)
 have H : (scan_Blocks.l0 k a0 ([] : List (S119))) = some r := h
 clear h
 have H' := Aside0.mk H
 clear H
 go_enter Tryz.func64, Tryz.ntmps64
 go_wp2
 go_loopg [0, 3] k (fun kq v0 v3 w' => ∃ (x0_1 : ByteArray) (x3_1 : List (S119)), v0 = .string x0_1 ∧ Aside0 (scan_Blocks.l0 kq x0_1 x3_1 = some r) ∧ Aside0 (kq ≤ k) ∧ Aside0 (Kd.R k119 119 w' w.heap.size (fun _ => True) v3 x3_1) ∧ Aside0 (Below w.heap.size w w'))
 case atStart => exact ⟨(a0), (([] : List (S119))), (by first | rfl), H', ⟨Nat.le_refl _⟩, ⟨by exact Kd.R_nil _ _ _ _ _⟩, ⟨by exact HB.out⟩⟩
 case round =>
  clear H'
  obtain ⟨x0_1, x3_1, rfl, HA, HK1, HO_3, HB⟩ := hrel
  cases gk with
  | zero => exact absurd HA.out (by simp [scan_Blocks.l0])
  | succ k1 =>
   have H := HA.out
   clear HA
   simp only [scan_Blocks.l0] at H
   replace H := Option.bind_eq_some_iff.mp H
   obtain ⟨t183, A20, H⟩ := H
   replace H : (if t183 < 0 then (some x3_1) else (if 0 ≤ t183 then (if t183 < (x0_1.size : Int) then (if (bt x0_1 t183) = 125 then (if 0 ≤ (wrap64 (t183 + 1)) then (if (wrap64 (t183 + 1)) ≤ (x0_1.size : Int) then (scan_Blocks.l0 k1 (x0_1.extract ((wrap64 (t183 + 1)) : Int).toNat x0_1.size) x3_1) else (none)) else (none)) else (if 0 ≤ (wrap64 (t183 + 1)) then (if (wrap64 (t183 + 1)) ≤ (x0_1.size : Int) then ((strings_Cut.f (x0_1.extract ((wrap64 (t183 + 1)) : Int).toNat x0_1.size) (⟨#[125]⟩ : ByteArray)).bind fun bt184 => (if bt184.2.2 = true then (if t183 ≤ (x0_1.size : Int) then ((scan_Trim.f (x0_1.extract 0 (t183 : Int).toNat)).bind fun t187 => ((scan_Trim.f bt184.1).bind fun t188 => (if x3_1.length < 4398046511104 then (scan_Blocks.l0 k1 bt184.2.1 (x3_1 ++ [(⟨t187, t188⟩ : S119)])) else (none)))) else (none)) else (some x3_1))) else (none)) else (none))) else (none)) else (none))) = some r := H
   have A2 := Aside0.mk A20
   clear A20
   by_cases c3 : t183 < 0
   ·rw [if_pos c3] at H
    have c3b0 : decide (t183 < 0) = true := decide_eq_true c3
    clear c3
    obtain rfl := Option.some.inj H
    go_wp2_with (first | ((with_reducible refine gate_callee (f := 101) rfl ?_); refine goesL_ (some 9) rfl rfl Tryz.func101 (by kernel_rfl) rfl #[.string x0_1, .string (⟨#[123, 125]⟩ : ByteArray)] rfl (by (try simp only [List.map_toArray, List.map_cons, List.map_nil]); first | rfl) ?_; (with_reducible refine (strings_IndexAny.calls x0_1 (⟨#[123, 125]⟩ : ByteArray) t183 _ A2.out).mono ?_); rintro e w4 ⟨rfl, hb⟩; refine ⟨_, rfl, ?_⟩; have n0_ := Aside0.mk (Kd.R_below HO_3.out hb); have n1_ := Aside0.mk (below_step HB.out hb); clear HO_3; clear HB; have HO_3 := n0_; have HB := n1_; clear n0_ n1_; (try clear hb); (try clear hb2); (try clear hk); (try clear hi)))
    go_ret
    exact ⟨_, by first | rfl, by exact HO_3.out, by exact HB.out⟩
   ·rw [if_neg c3] at H
    have c3b0 : decide (t183 < 0) = false := decide_eq_false c3
    clear c3
    by_cases c5 : 0 ≤ t183
    ·rw [if_pos c5] at H
     have c5b0 : decide (0 ≤ t183) = true := decide_eq_true c5
     clear c5
     by_cases c6 : t183 < (x0_1.size : Int)
     ·rw [if_pos c6] at H
      have c6b0 : decide (t183 < (x0_1.size : Int)) = true := decide_eq_true c6
      clear c6
      by_cases c8 : (bt x0_1 t183) = 125
      ·rw [if_pos c8] at H
       have c8b0 : ((bt x0_1 t183) == 125) = true := beq_iff_eq.mpr c8
       have c8b1 : ((bt x0_1 t183) != 125) = false := bne_eq_false_iff_eq.mpr c8
       clear c8
       obtain ⟨ji9, hji9⟩ : ∃ j_ : Int, (wrap64 (t183 + 1)) = j_ := ⟨_, rfl⟩
       replace H : (if 0 ≤ (ji9) then (if (ji9) ≤ (x0_1.size : Int) then (scan_Blocks.l0 k1 (x0_1.extract ((ji9) : Int).toNat x0_1.size) x3_1) else (none)) else (none)) = some r := by first | (rw [hji9] at H; exact H)
       (try rw [hji9] at A2)
       have hji9w : (IntKind.i64.wrap (t183 + 1)) = ji9 := (i64_w _).trans hji9
       by_cases c10 : 0 ≤ (ji9)
       ·rw [if_pos c10] at H
        have c10b0 := eq_true c10
        have c10b1 : decide (0 ≤ (ji9)) = true := decide_eq_true c10
        clear c10
        by_cases c11 : (ji9) ≤ (x0_1.size : Int)
        ·rw [if_pos c11] at H
         have c11b0 := eq_true c11
         have c11b1 : decide ((ji9) ≤ (x0_1.size : Int)) = true := decide_eq_true c11
         clear c11
         have H' := Aside0.mk H
         clear H
         go_wp2_with (first | ((with_reducible refine gate_callee (f := 101) rfl ?_); refine goesL_ (some 9) rfl rfl Tryz.func101 (by kernel_rfl) rfl #[.string x0_1, .string (⟨#[123, 125]⟩ : ByteArray)] rfl (by (try simp only [List.map_toArray, List.map_cons, List.map_nil]); first | rfl) ?_; (with_reducible refine (strings_IndexAny.calls x0_1 (⟨#[123, 125]⟩ : ByteArray) t183 _ A2.out).mono ?_); rintro e w12 ⟨rfl, hb⟩; refine ⟨_, rfl, ?_⟩; have n0_ := Aside0.mk (Kd.R_below HO_3.out hb); have n1_ := Aside0.mk (below_step HB.out hb); clear HO_3; clear HB; have HO_3 := n0_; have HB := n1_; clear n0_ n1_; (try clear hb); (try clear hb2); (try clear hk); (try clear hi); have p7 : 0 ≤ (t183 : Int) := of_decide_eq_true (by first | (with_reducible assumption)); have q7 : t183 < (x0_1.size : Int) := of_decide_eq_true (by first | (with_reducible assumption)); have hx7 := bt_at x0_1 t183; replace p7 := eq_true p7; replace q7 := eq_true q7))
         go_roundg k1
         case measure => have := HK1.out; omega
         case rel => exact ⟨(x0_1.extract ((ji9) : Int).toNat x0_1.size), (x3_1), (by first | rfl), H', ⟨by have := HK1.out; omega⟩, ⟨by exact HO_3.out⟩, ⟨by exact HB.out⟩⟩
        ·rw [if_neg c11] at H
         exact absurd H (by simp)
       ·rw [if_neg c10] at H
        exact absurd H (by simp)
      ·rw [if_neg c8] at H
       have c8b0 : ((bt x0_1 t183) == 125) = false := beq_eq_false_iff_ne.mpr c8
       have c8b1 : ((bt x0_1 t183) != 125) = true := bne_iff_ne.mpr c8
       obtain ⟨ji13, hji13⟩ : ∃ j_ : Int, (wrap64 (t183 + 1)) = j_ := ⟨_, rfl⟩
       replace H : (if 0 ≤ (ji13) then (if (ji13) ≤ (x0_1.size : Int) then ((strings_Cut.f (x0_1.extract ((ji13) : Int).toNat x0_1.size) (⟨#[125]⟩ : ByteArray)).bind fun bt184 => (if bt184.2.2 = true then (if t183 ≤ (x0_1.size : Int) then ((scan_Trim.f (x0_1.extract 0 (t183 : Int).toNat)).bind fun t187 => ((scan_Trim.f bt184.1).bind fun t188 => (if x3_1.length < 4398046511104 then (scan_Blocks.l0 k1 bt184.2.1 (x3_1 ++ [(⟨t187, t188⟩ : S119)])) else (none)))) else (none)) else (some x3_1))) else (none)) else (none)) = some r := by first | (rw [hji13] at H; exact H)
       (try rw [hji13] at A2)
       have hji13w : (IntKind.i64.wrap (t183 + 1)) = ji13 := (i64_w _).trans hji13
       by_cases c14 : 0 ≤ (ji13)
       ·rw [if_pos c14] at H
        have c14b0 := eq_true c14
        have c14b1 : decide (0 ≤ (ji13)) = true := decide_eq_true c14
        clear c14
        by_cases c15 : (ji13) ≤ (x0_1.size : Int)
        ·rw [if_pos c15] at H
         have c15b0 := eq_true c15
         have c15b1 : decide ((ji13) ≤ (x0_1.size : Int)) = true := decide_eq_true c15
         clear c15
         replace H := Option.bind_eq_some_iff.mp H
         obtain ⟨⟨t184, t185, t186⟩, A160, H⟩ := H
         replace H : (if t186 = true then (if t183 ≤ (x0_1.size : Int) then ((scan_Trim.f (x0_1.extract 0 (t183 : Int).toNat)).bind fun t187 => ((scan_Trim.f t184).bind fun t188 => (if x3_1.length < 4398046511104 then (scan_Blocks.l0 k1 t185 (x3_1 ++ [(⟨t187, t188⟩ : S119)])) else (none)))) else (none)) else (some x3_1)) = some r := H
         have A16 := Aside0.mk A160
         clear A160
         by_cases c17 : t186 = true
         ·subst c17
          have H1 : (if t183 ≤ (x0_1.size : Int) then ((scan_Trim.f (x0_1.extract 0 (t183 : Int).toNat)).bind fun t187 => ((scan_Trim.f t184).bind fun t188 => (if x3_1.length < 4398046511104 then (scan_Blocks.l0 k1 t185 (x3_1 ++ [(⟨t187, t188⟩ : S119)])) else (none)))) else (none)) = some r := by rw [if_pos rfl] at H; exact H
          clear H
          have H := H1
          clear H1
          have c18b0 := eq_true (of_decide_eq_true (by first | (with_reducible assumption)) : 0 ≤ t183)
          by_cases c19 : t183 ≤ (x0_1.size : Int)
          ·rw [if_pos c19] at H
           have c19b0 := eq_true c19
           have c19b1 : decide (t183 ≤ (x0_1.size : Int)) = true := decide_eq_true c19
           clear c19
           replace H := Option.bind_eq_some_iff.mp H
           obtain ⟨t187, A200, H⟩ := H
           replace H : ((scan_Trim.f t184).bind fun t188 => (if x3_1.length < 4398046511104 then (scan_Blocks.l0 k1 t185 (x3_1 ++ [(⟨t187, t188⟩ : S119)])) else (none))) = some r := H
           have A20 := Aside0.mk A200
           clear A200
           replace H := Option.bind_eq_some_iff.mp H
           obtain ⟨t188, A210, H⟩ := H
           replace H : (if x3_1.length < 4398046511104 then (scan_Blocks.l0 k1 t185 (x3_1 ++ [(⟨t187, t188⟩ : S119)])) else (none)) = some r := H
           have A21 := Aside0.mk A210
           clear A210
           by_cases c22 : x3_1.length < 4398046511104
           ·rw [if_pos c22] at H
            have LMc22 := Aside0.mk c22
            clear c22
            obtain ⟨y189, hy189⟩ : ∃ y_ : List (S119), y_ = (x3_1 ++ [(⟨t187, t188⟩ : S119)]) := ⟨_, rfl⟩
            replace H : (scan_Blocks.l0 k1 t185 y189) = some r := by first | (rw [hy189]; with_reducible exact H)
            have Ny189 := Aside0.mk hy189
            clear hy189
            have H' := Aside0.mk H
            clear H
            go_wp2_with (first | ((with_reducible refine gate_callee (f := 101) rfl ?_); refine goesL_ (some 9) rfl rfl Tryz.func101 (by kernel_rfl) rfl #[.string x0_1, .string (⟨#[123, 125]⟩ : ByteArray)] rfl (by (try simp only [List.map_toArray, List.map_cons, List.map_nil]); first | rfl) ?_; (with_reducible refine (strings_IndexAny.calls x0_1 (⟨#[123, 125]⟩ : ByteArray) t183 _ A2.out).mono ?_); rintro e w23 ⟨rfl, hb⟩; refine ⟨_, rfl, ?_⟩; have n0_ := Aside0.mk (Kd.R_below HO_3.out hb); have n1_ := Aside0.mk (below_step HB.out hb); clear HO_3; clear HB; have HO_3 := n0_; have HB := n1_; clear n0_ n1_; (try clear hb); (try clear hb2); (try clear hk); (try clear hi); have p7 : 0 ≤ (t183 : Int) := of_decide_eq_true (by first | (with_reducible assumption)); have q7 : t183 < (x0_1.size : Int) := of_decide_eq_true (by first | (with_reducible assumption)); have hx7 := bt_at x0_1 t183; replace p7 := eq_true p7; replace q7 := eq_true q7) | ((with_reducible refine gate_callee (f := 102) rfl ?_); refine goesL_ (some 26) rfl rfl Tryz.func102 (by kernel_rfl) rfl #[.string (x0_1.extract ((ji13) : Int).toNat x0_1.size), .string (⟨#[125]⟩ : ByteArray)] rfl (by (try simp only [List.map_toArray, List.map_cons, List.map_nil]); first | rfl) ?_; (with_reducible refine (strings_Cut.calls (x0_1.extract ((ji13) : Int).toNat x0_1.size) (⟨#[125]⟩ : ByteArray) t184 t185 true _ A16.out).mono ?_); rintro e w' ⟨rfl, ⟨nd, rfl⟩⟩; refine ⟨_, rfl, ?_⟩) | ((with_reducible refine gate_callee (f := 91) rfl ?_); refine goesL_ (some 37) rfl rfl Tryz.func91 (by kernel_rfl) rfl #[.string (x0_1.extract 0 (t183 : Int).toNat)] rfl (by (try simp only [List.map_toArray, List.map_cons, List.map_nil]); first | rfl) ?_; (with_reducible refine (scan_Trim.calls (x0_1.extract 0 (t183 : Int).toNat) t187 _ A20.out).mono ?_); rintro e w24 ⟨rfl, hb⟩; refine ⟨_, rfl, ?_⟩; have n0_ := Aside0.mk (Kd.R_below (by (with_reducible repeat (first | apply Kd.R_drewN)); exact HO_3.out) hb); have n1_ := Aside0.mk (below_step (by repeat (with_reducible first | exact HB.out | apply pw_below_drewN)) hb); clear HO_3; clear HB; have HO_3 := n0_; have HB := n1_; clear n0_ n1_; (try clear hb); (try clear hb2); (try clear hk); (try clear hi)) | ((with_reducible refine gate_callee (f := 91) rfl ?_); refine goesL_ (some 39) rfl rfl Tryz.func91 (by kernel_rfl) rfl #[.string t184] rfl (by (try simp only [List.map_toArray, List.map_cons, List.map_nil]); first | rfl) ?_; (with_reducible refine (scan_Trim.calls t184 t188 _ A21.out).mono ?_); rintro e w25 ⟨rfl, hb⟩; refine ⟨_, rfl, ?_⟩; have n0_ := Aside0.mk (Kd.R_below HO_3.out hb); have n1_ := Aside0.mk (below_step HB.out hb); clear HO_3; clear HB; have HO_3 := n0_; have HB := n1_; clear n0_ n1_; (try clear hb); (try clear hb2); (try clear hk); (try clear hi)) | ((with_reducible refine gate_builtin (b := .append) (xs := #[.tmp 33, .tmp 41]) rfl ?_); at_builtin; refine Kd.R_append k119 (w0 := w) w.heap.size rfl (.tmp 33) (.tmp 41) 116 119 (.agg #[(.string ⟨#[]⟩), (.string ⟨#[]⟩)]) 32 rfl Tryz.underlying116 info119 rfl (by decide) (by omega) u3 x3_1 (⟨t187, t188⟩ : S119) [.string t187, .string t188] (fun _ => True) (fun _ => False) rfl rfl ?aP (fun _ hk => hk.elim) ?aF ?aO ?aB ?aS ?aL ?_; (case aP => exact k119_mkM _ _ _ (⟨t187, t188⟩ : S119)); (case aB => exact HB.out); (case aF => exact (fun _ _ => trivial)); (case aO => exact HO_3.out); (case aS => exact (below_size HB.out)); (case aL => have := LMc22.out; omega); intro v190 w26 ho hb hg hat; rw [← Ny189.out] at ho; have n0_ := Aside0.mk (hb); have n1_ := Aside0.mk (ho); clear HB; clear HO_3; have HB := n0_; have HO191 := n1_; clear n0_ n1_; clear ho hb hg hat))
            go_roundg k1
            case measure => have := HK1.out; omega
            case rel => exact ⟨(t185), (y189), (by first | rfl), H', ⟨by have := HK1.out; omega⟩, ⟨by exact HO191.out⟩, ⟨by exact HB.out⟩⟩
           ·rw [if_neg c22] at H
            exact absurd H (by simp)
          ·rw [if_neg c19] at H
           exact absurd H (by simp)
         ·replace c17 := Bool.eq_false_iff.mpr c17
          subst c17
          have H1 : (some x3_1) = some r := by rw [if_neg (show ¬ (false = true) by decide)] at H; exact H
          clear H
          have H := H1
          clear H1
          obtain rfl := Option.some.inj H
          go_wp2_with (first | ((with_reducible refine gate_callee (f := 101) rfl ?_); refine goesL_ (some 9) rfl rfl Tryz.func101 (by kernel_rfl) rfl #[.string x0_1, .string (⟨#[123, 125]⟩ : ByteArray)] rfl (by (try simp only [List.map_toArray, List.map_cons, List.map_nil]); first | rfl) ?_; (with_reducible refine (strings_IndexAny.calls x0_1 (⟨#[123, 125]⟩ : ByteArray) t183 _ A2.out).mono ?_); rintro e w27 ⟨rfl, hb⟩; refine ⟨_, rfl, ?_⟩; have n0_ := Aside0.mk (Kd.R_below HO_3.out hb); have n1_ := Aside0.mk (below_step HB.out hb); clear HO_3; clear HB; have HO_3 := n0_; have HB := n1_; clear n0_ n1_; (try clear hb); (try clear hb2); (try clear hk); (try clear hi); have p7 : 0 ≤ (t183 : Int) := of_decide_eq_true (by first | (with_reducible assumption)); have q7 : t183 < (x0_1.size : Int) := of_decide_eq_true (by first | (with_reducible assumption)); have hx7 := bt_at x0_1 t183; replace p7 := eq_true p7; replace q7 := eq_true q7) | ((with_reducible refine gate_callee (f := 102) rfl ?_); refine goesL_ (some 26) rfl rfl Tryz.func102 (by kernel_rfl) rfl #[.string (x0_1.extract ((ji13) : Int).toNat x0_1.size), .string (⟨#[125]⟩ : ByteArray)] rfl (by (try simp only [List.map_toArray, List.map_cons, List.map_nil]); first | rfl) ?_; (with_reducible refine (strings_Cut.calls (x0_1.extract ((ji13) : Int).toNat x0_1.size) (⟨#[125]⟩ : ByteArray) t184 t185 false _ A16.out).mono ?_); rintro e w' ⟨rfl, ⟨nd, rfl⟩⟩; refine ⟨_, rfl, ?_⟩))
          go_ret
          exact ⟨_, by first | rfl, by (with_reducible repeat (first | apply Kd.R_drewN)); exact HO_3.out, by repeat (with_reducible first | exact HB.out | apply pw_below_drewN)⟩
        ·rw [if_neg c15] at H
         exact absurd H (by simp)
       ·rw [if_neg c14] at H
        exact absurd H (by simp)
     ·rw [if_neg c6] at H
      exact absurd H (by simp)
    ·rw [if_neg c5] at H
     exact absurd H (by simp)

/-! ### scan_Strip: function 65 (by hand) -/
def scan_Strip.f (a0 : ByteArray) : Option ByteArray := if a0.size < 4294967281 then some (Go.Proofs.Scn.stripV a0) else none
theorem scan_Strip.calls (a0 : ByteArray) (r : ByteArray) (w : World) (h : scan_Strip.f a0 = some r) (hmx : Go.Proofs.Sht.Env w) :
  Calls Tryz.prog 65 #[.string a0] w fun e w' => e = .returned (.string r) ∧ Below w.heap.size w w' := by
 unfold scan_Strip.f at h
 by_cases h1 : a0.size < 4294967281
 ·rw [if_pos h1] at h
  cases h
  exact Go.Proofs.Scn.strip_any a0 w h1 hmx.1
 ·rw [if_neg h1] at h; cases h


/-! ### sheet_Read: function 27 -/
def sheet_Read.l0 : Nat → List (S115) → List (S119) → Int → Int → Option ((List (S115)) × Int)
 | 0, _, _, _, _ => none
 | k + 1, x4, x14, x15, x16 => if x16 < x15 then (if 0 ≤ x16 then (if x16 < (x14.length : Int) then ((selector_List.f k ((rd_T119 x14 x16).f0)).bind fun bt198 => (if bt198.2 = true then ((sheet_Decls.f k ((rd_T119 x14 x16).f1)).bind fun t202 => (if x4.length < 2932031007402 then (sheet_Read.l0 k (x4 ++ [(⟨bt198.1, t202⟩ : S115)]) x14 x15 (wrap64 (x16 + 1))) else (none))) else (sheet_Read.l0 k x4 x14 x15 (wrap64 (x16 + 1))))) else (none)) else (none)) else (if (x4.length : Int) > 40 then (some (([] : List (S115)), 3)) else (some (x4, 0)))
def sheet_Read.f (k : Nat) (a0 : ByteArray) : Option ((List (S115)) × Int) := if (a0.size : Int) > 4000 then (some (([] : List (S115)), 3)) else ((scan_Strip.f a0).bind fun t192 => ((scan_Blocks.f k t192).bind fun t193 => (sheet_Read.l0 k ([] : List (S115)) t193 (t193.length : Int) 0)))
theorem sheet_Read.mono_l : ∀ k, (∀ y0 y1 y2 y3, LeO (sheet_Read.l0 k y0 y1 y2 y3) (sheet_Read.l0 (k + 1) y0 y1 y2 y3))
 | 0 => fun _ _ _ _ r h => by simp [sheet_Read.l0] at h
 | k + 1 => by
  have ih0 := sheet_Read.mono_l k
  ·intro y0 y1 y2 y3
   unfold sheet_Read.l0
   repeat' first
   | (with_reducible exact ih0 _ _ _ _)
   | (with_reducible exact scan_Blocks.mono _ _)
   | (with_reducible exact selector_List.mono _ _)
   | (with_reducible exact sheet_Decls.mono _ _)
   | (with_reducible exact LeO.refl _)
   | (with_reducible exact LeO.none _)
   | (with_reducible refine LeO.ite ?_ ?_)
   | (with_reducible refine LeO.bind ?_ (fun _ => ?_))
   | exact ih0 _ _ _ _
   | exact scan_Blocks.mono _ _
   | exact selector_List.mono _ _
   | exact sheet_Decls.mono _ _
   | exact LeO.none _
   | refine LeO.ite ?_ ?_
   | refine LeO.bind ?_ (fun _ => ?_)
theorem sheet_Read.mono : ∀ a0 k, LeO (sheet_Read.f k a0) (sheet_Read.f (k + 1) a0) := by
 intro a0 k
 have ih0 := sheet_Read.mono_l k
 unfold sheet_Read.f
 repeat' first
   | (with_reducible exact ih0 _ _ _ _)
   | (with_reducible exact scan_Blocks.mono _ _)
   | (with_reducible exact selector_List.mono _ _)
   | (with_reducible exact sheet_Decls.mono _ _)
   | (with_reducible exact LeO.refl _)
   | (with_reducible exact LeO.none _)
   | (with_reducible refine LeO.ite ?_ ?_)
   | (with_reducible refine LeO.bind ?_ (fun _ => ?_))
   | exact ih0 _ _ _ _
   | exact scan_Blocks.mono _ _
   | exact selector_List.mono _ _
   | exact sheet_Decls.mono _ _
   | exact LeO.none _
   | refine LeO.ite ?_ ?_
   | refine LeO.bind ?_ (fun _ => ?_)
set_option maxHeartbeats 8000000 in
set_option maxRecDepth 100000 in
theorem sheet_Read.calls (k : Nat) (a0 : ByteArray) (r1 : List (S115)) (r2 : Int) (w : World) (h : sheet_Read.f k a0 = some (r1, r2)) (hmx : Go.Proofs.Sht.Env w) :
  Calls Tryz.prog 27 #[.string a0] w fun e w' => ∃ v0_ : Value, e = .returned (.tuple #[v0_, .int .i64 r2]) ∧ Kd.R k115 115 w' w.heap.size (fun _ => True) v0_ r1 ∧ Below w.heap.size w w' := by
 have HMX := Aside0.mk hmx
 clear hmx
 have hu119 := Tryz.underlying119
 have hu115 := Tryz.underlying115
 have HB := Aside0.mk (Below.refl w.heap.size w)
 have H : (if (a0.size : Int) > 4000 then (some (([] : List (S115)), 3)) else ((scan_Strip.f a0).bind fun t192 => ((scan_Blocks.f k t192).bind fun t193 => (sheet_Read.l0 k ([] : List (S115)) t193 (t193.length : Int) 0)))) = some (r1, r2) := h
 clear h
 by_cases c2 : (a0.size : Int) > 4000
 ·rw [if_pos c2] at H
  have c2b0 : decide (4000 < (a0.size : Int)) = true := decide_eq_true c2
  have c2b1 : decide (4000 < a0.size) = true := decide_eq_true (by omega)
  clear c2
  simp only [Option.some.injEq, Prod.mk.injEq] at H
  obtain ⟨rfl, rfl⟩ := H
  go_enter Tryz.func27, Tryz.ntmps27
  go_wp2
  go_ret2
  exact ⟨_, by first | rfl, by exact Kd.R_nil _ _ _ _ _, by exact HB.out⟩
 ·rw [if_neg c2] at H
  have c2b0 : decide (4000 < (a0.size : Int)) = false := decide_eq_false c2
  have c2b1 : decide (4000 < a0.size) = false := decide_eq_false (by omega)
  clear c2
  replace H := Option.bind_eq_some_iff.mp H
  obtain ⟨t192, A30, H⟩ := H
  replace H : ((scan_Blocks.f k t192).bind fun t193 => (sheet_Read.l0 k ([] : List (S115)) t193 (t193.length : Int) 0)) = some (r1, r2) := H
  have A3 := Aside0.mk A30
  clear A30
  replace H := Option.bind_eq_some_iff.mp H
  obtain ⟨t193, A40, H⟩ := H
  replace H : (sheet_Read.l0 k ([] : List (S115)) t193 (t193.length : Int) 0) = some (r1, r2) := H
  have A4 := Aside0.mk A40
  clear A40
  have H' := Aside0.mk H
  clear H
  go_enter Tryz.func27, Tryz.ntmps27
  go_wp2_with (first | ((with_reducible refine gate_callee (f := 65) rfl ?_); refine goesL_ (some 13) rfl rfl Tryz.func65 (by kernel_rfl) rfl #[.string a0] rfl (by (try simp only [List.map_toArray, List.map_cons, List.map_nil]); first | rfl) ?_; (with_reducible refine (scan_Strip.calls a0 t192 _ A3.out (HMX.out.below HB.out)).mono ?_); rintro e w5 ⟨rfl, hb⟩; refine ⟨_, rfl, ?_⟩; have n0_ := Aside0.mk (below_step HB.out hb); clear HB; have HB := n0_; clear n0_; (try clear hb); (try clear hb2); (try clear hk); (try clear hi)) | ((with_reducible refine gate_callee (f := 64) rfl ?_); refine goesL_ (some 14) rfl rfl Tryz.func64 (by kernel_rfl) rfl #[.string t192] rfl (by (try simp only [List.map_toArray, List.map_cons, List.map_nil]); first | rfl) ?_; (with_reducible refine (scan_Blocks.calls k t192 t193 _ A4.out).mono ?_); rintro e w6 ⟨v194, rfl, ho0, hb⟩; refine ⟨_, rfl, ?_⟩; have n0_ := Aside0.mk (Kd.R_lower ho0 (below_size HB.out)); have n1_ := Aside0.mk (below_step HB.out hb); clear HB; have HO195 := n0_; have HB := n1_; clear n0_ n1_; (try clear hb); (try clear hb2); (try clear hk); (try clear hi); (try clear ho0); obtain ⟨Ao7, co7, eo7⟩ := Kd.R_slice HO195.out; subst eo7))
  go_loopg [4, 16] k (fun kq v4 v16 w' => ∃ (x4_1 : List (S115)) (x16_1 : Int), v16 = .int .i64 x16_1 ∧ Aside0 (sheet_Read.l0 kq x4_1 t193 (t193.length : Int) x16_1 = some (r1, r2)) ∧ Aside0 (kq ≤ k) ∧ Aside0 (Kd.R k115 115 w' w.heap.size (fun _ => True) v4 x4_1) ∧ Aside0 (Kd.R k119 119 w' w.heap.size (fun _ => True) (.slice Ao7 t193.length co7) t193) ∧ Aside0 (Below w.heap.size w w'))
  case atStart => exact ⟨(([] : List (S115))), (0), (by first | rfl), H', ⟨Nat.le_refl _⟩, ⟨by exact Kd.R_nil _ _ _ _ _⟩, ⟨by exact HO195.out⟩, ⟨by exact HB.out⟩⟩
  case round =>
   clear H'
   try clear c2
   try clear c2b0
   try clear c2b1
   try clear p2
   try clear c6
   obtain ⟨x4_1, x16_1, rfl, HA, HK1, HO_4, HO_14, HB⟩ := hrel
   cases gk with
   | zero => exact absurd HA.out (by simp [sheet_Read.l0])
   | succ k1 =>
    have H := HA.out
    clear HA
    simp only [sheet_Read.l0] at H
    by_cases c8 : x16_1 < (t193.length : Int)
    ·rw [if_pos c8] at H
     have c8b0 : decide (x16_1 < (t193.length : Int)) = true := decide_eq_true c8
     clear c8
     by_cases c9 : 0 ≤ x16_1
     ·rw [if_pos c9] at H
      have c9b0 : decide (0 ≤ x16_1) = true := decide_eq_true c9
      clear c9
      by_cases c10 : x16_1 < (t193.length : Int)
      ·rw [if_pos c10] at H
       have c10b0 : decide (x16_1 < (t193.length : Int)) = true := decide_eq_true c10
       clear c10
       replace H := Option.bind_eq_some_iff.mp H
       obtain ⟨⟨t198, t199⟩, A110, H⟩ := H
       replace H : (if t199 = true then ((sheet_Decls.f k1 ((rd_T119 t193 x16_1).f1)).bind fun t202 => (if x4_1.length < 2932031007402 then (sheet_Read.l0 k1 (x4_1 ++ [(⟨t198, t202⟩ : S115)]) t193 (t193.length : Int) (wrap64 (x16_1 + 1))) else (none))) else (sheet_Read.l0 k1 x4_1 t193 (t193.length : Int) (wrap64 (x16_1 + 1)))) = some (r1, r2) := H
       have A11 := Aside0.mk A110
       clear A110
       by_cases c12 : t199 = true
       ·subst c12
        have H1 : ((sheet_Decls.f k1 ((rd_T119 t193 x16_1).f1)).bind fun t202 => (if x4_1.length < 2932031007402 then (sheet_Read.l0 k1 (x4_1 ++ [(⟨t198, t202⟩ : S115)]) t193 (t193.length : Int) (wrap64 (x16_1 + 1))) else (none))) = some (r1, r2) := by rw [if_pos rfl] at H; exact H
        clear H
        have H := H1
        clear H1
        replace H := Option.bind_eq_some_iff.mp H
        obtain ⟨t202, A130, H⟩ := H
        replace H : (if x4_1.length < 2932031007402 then (sheet_Read.l0 k1 (x4_1 ++ [(⟨t198, t202⟩ : S115)]) t193 (t193.length : Int) (wrap64 (x16_1 + 1))) else (none)) = some (r1, r2) := H
        have A13 := Aside0.mk A130
        clear A130
        by_cases c14 : x4_1.length < 2932031007402
        ·rw [if_pos c14] at H
         have LMc14 := Aside0.mk c14
         clear c14
         obtain ⟨y205, hy205⟩ : ∃ y_ : List (S115), y_ = (x4_1 ++ [(⟨t198, t202⟩ : S115)]) := ⟨_, rfl⟩
         replace H : (sheet_Read.l0 k1 y205 t193 (t193.length : Int) (wrap64 (x16_1 + 1))) = some (r1, r2) := by first | (rw [hy205]; with_reducible exact H)
         have Ny205 := Aside0.mk hy205
         clear hy205
         have H' := Aside0.mk H
         clear H
         have p196 : 0 ≤ (x16_1 : Int) := of_decide_eq_true (by first | (with_reducible assumption))
         have q196 : x16_1 < (t193.length : Int) := of_decide_eq_true (by first | (with_reducible assumption))
         obtain ⟨ad196, e196, hx196_0, hx196_1⟩ := at_T119 (Kd.R_reads' HO_14.out).2.2 x16_1 p196 q196
         cases e196
         replace p196 := eq_true p196
         replace q196 := eq_true q196
         go_wp2_with (first | ((with_reducible refine gate_dst (N := 6) rfl ?_); refine box_event ?hg (N := 6) ?hd (cs := #[.string (⟨#[]⟩ : ByteArray), .string (⟨#[]⟩ : ByteArray)]) (t := 119) ?hr ?_; (case hd => rfl); (case hg => rfl); (case hr => first | (go_simp; done)); intro gb197 hg w15 hbox hb; have n0_ := Aside0.mk (Kd.R_below HO_4.out hb); have n1_ := Aside0.mk (Kd.R_below (Kd.R_elderB HO_14.out gb197 (Nat.le_of_eq hg.symm)) hb); have n2_ := Aside0.mk (below_step HB.out hb); have n3_ := Aside0.mk (hbox); have n4_ := Aside0.mk ((by rw [hg]; exact (below_size HB.out) : w.heap.size ≤ gb197)); have n5_ := Aside0.mk ((by rw [hg]; exact (below_size HB.out) : w.heap.size ≤ gb197)); clear HO_4; clear HO_14; clear HB; have HO_4 := n0_; have HO_14 := n1_; have HB := n2_; have BK197 := n3_; have GW197 := n4_; have GE197 := n5_; clear n0_ n1_ n2_ n3_ n4_ n5_; clear hb hbox hg; have hcz16_0 : w15.cell? ⟨gb197, 0, none⟩ = some (.string (⟨#[]⟩ : ByteArray)) := (blk_cell BK197.out 0).trans rfl; have hcz16_1 : w15.cell? ⟨gb197, 1, none⟩ = some (.string (⟨#[]⟩ : ByteArray)) := (blk_cell BK197.out 1).trans rfl; have hfz16_0 := blk_frozen BK197.out 0; have hfz16_1 := blk_frozen BK197.out 1) | ((with_reducible refine gate_callee (f := 14) rfl ?_); refine goesL_ (some 23) rfl rfl Tryz.func14 (by kernel_rfl) rfl #[.string ((rd_T119 t193 x16_1).f0)] rfl (by (try simp only [List.map_toArray, List.map_cons, List.map_nil]); first | rfl) ?_; (with_reducible refine (selector_List.calls k1 ((rd_T119 t193 x16_1).f0) t198 true _ A11.out (HMX.out.below (by repeat (with_reducible first | exact HB.out | refine below_set ?_ GE197.out)))).mono ?_); rintro e w17 ⟨v200, rfl, ho0, hb⟩; refine ⟨_, rfl, ?_⟩; have n0_ := Aside0.mk (Kd.R_elder' (by exact (Kd.R_mono (Kd.R_far (p := ⟨gb197, 1, none⟩) (Kd.R_far (p := ⟨gb197, 0, none⟩) (Kd.R_types HO_4.out BK197.out (by decide)) (fun _ hk => hk.2) (.string ((rd_T119 t193 x16_1).f0))) (fun _ hk => hk.2) (.string ((rd_T119 t193 x16_1).f1))) (fun _ h_ => h_.1))) (Kd.R_base ho0) hb); have n1_ := Aside0.mk (Kd.R_below (by exact (Kd.R_mono (Kd.R_far (p := ⟨gb197, 1, none⟩) (Kd.R_far (p := ⟨gb197, 0, none⟩) (Kd.R_mono HO_14.out (fun k_ hk => (⟨hk, hk.2⟩ : _ ∧ k_ ≠ gb197))) (fun _ hk => hk.2) (.string ((rd_T119 t193 x16_1).f0))) (fun _ hk => hk.2) (.string ((rd_T119 t193 x16_1).f1))) (fun _ h_ => h_.1))) hb); have n2_ := Aside0.mk (Kd.R_lower ho0 (below_size (by repeat (with_reducible first | exact HB.out | refine below_set ?_ GE197.out)))); have n3_ := Aside0.mk (blk_below (g := gb197) (o := .cells #[.string ((rd_T119 t193 x16_1).f0), .string ((rd_T119 t193 x16_1).f1)] 119 (0, 0)) (by refine blk_put (cs := #[.string ((rd_T119 t193 x16_1).f0), .string (⟨#[]⟩ : ByteArray)]) ?_ 1 _ rfl; refine blk_put (cs := #[.string (⟨#[]⟩ : ByteArray), .string (⟨#[]⟩ : ByteArray)]) ?_ 0 _ rfl; exact BK197.out) hb); have n4_ := Aside0.mk (below_step (by repeat (with_reducible first | exact HB.out | refine below_set ?_ GE197.out)) hb); clear HO_4; clear HO_14; clear BK197; clear HB; have HO_4 := n0_; have HO_14 := n1_; have HO201 := n2_; have BK197 := n3_; have HB := n4_; clear n0_ n1_ n2_ n3_ n4_; (try clear hb); (try clear hb2); (try clear hk); (try clear hi); (try clear ho0); have hcz18_0 : w17.cell? ⟨gb197, 0, none⟩ = some (.string ((rd_T119 t193 x16_1).f0)) := (blk_cell BK197.out 0).trans rfl; have hcz18_1 : w17.cell? ⟨gb197, 1, none⟩ = some (.string ((rd_T119 t193 x16_1).f1)) := (blk_cell BK197.out 1).trans rfl; have hfz18_0 := blk_frozen BK197.out 0; have hfz18_1 := blk_frozen BK197.out 1) | ((with_reducible refine gate_callee (f := 32) rfl ?_); refine goesL_ (some 31) rfl rfl Tryz.func32 (by kernel_rfl) rfl #[.string ((rd_T119 t193 x16_1).f1)] rfl (by (try simp only [List.map_toArray, List.map_cons, List.map_nil]); first | rfl) ?_; (with_reducible refine (sheet_Decls.calls k1 ((rd_T119 t193 x16_1).f1) t202 _ A13.out).mono ?_); rintro e w19 ⟨v203, rfl, ho0, hb⟩; refine ⟨_, rfl, ?_⟩; have n0_ := Aside0.mk (Kd.R_elder' HO_4.out (Kd.R_base ho0) hb); have n1_ := Aside0.mk (Kd.R_below HO_14.out hb); have n2_ := Aside0.mk (Kd.R_below HO201.out hb); have n3_ := Aside0.mk (Kd.R_lower ho0 (below_size HB.out)); have n4_ := Aside0.mk (blk_below (g := gb197) (o := .cells #[.string ((rd_T119 t193 x16_1).f0), .string ((rd_T119 t193 x16_1).f1)] 119 (0, 0)) BK197.out hb); have n5_ := Aside0.mk (below_step HB.out hb); clear HO_4; clear HO_14; clear HO201; clear BK197; clear HB; have HO_4 := n0_; have HO_14 := n1_; have HO201 := n2_; have HO204 := n3_; have BK197 := n4_; have HB := n5_; clear n0_ n1_ n2_ n3_ n4_ n5_; (try clear hb); (try clear hb2); (try clear hk); (try clear hi); (try clear ho0); obtain ⟨Ao20, co20, eo20⟩ := Kd.R_slice HO204.out; subst eo20; obtain ⟨Ao21, co21, eo21⟩ := Kd.R_slice HO201.out; subst eo21) | ((with_reducible refine gate_builtin (b := .append) (xs := #[.tmp 27, .tmp 33]) rfl ?_); at_builtin; refine Kd.R_append k115 (w0 := w) w.heap.size rfl (.tmp 27) (.tmp 33) 50 115 (.agg #[(.slice none 0 0), (.slice none 0 0)]) 48 rfl Tryz.underlying50 info115 rfl (by decide) (by omega) u4 x4_1 (⟨t198, t202⟩ : S115) [.slice Ao21 t198.length co21, .slice Ao20 t202.length co20] (fun _ => True) (fun k_ => ((fun _ => True)) k_ ∧ some k_ ≠ (u4 : Value).ownBlock) rfl rfl ?aP (fun _ hk => hk) ?aF ?aO ?aB ?aS ?aL ?_; (case aP => exact k115_mkM _ _ _ (⟨t198, t202⟩ : S115) (Kd.R_mono (Kd.R_apart' (HO201.out) (Kd.R_typed HO_4.out) (by decide)) (fun k_ hk => ⟨trivial, hk.2⟩)) (Kd.R_mono (Kd.R_apart' (HO204.out) (Kd.R_typed HO_4.out) (by decide)) (fun k_ hk => ⟨trivial, hk.2⟩))); (case aB => exact HB.out); (case aF => exact (fun _ _ => trivial)); (case aO => exact (by exact Kd.R_mono HO_4.out (fun _ hk => trivial))); (case aS => exact (below_size HB.out)); (case aL => have := LMc14.out; omega); intro v206 w22 ho hb hg hat; rw [← Ny205.out] at ho; have n0_ := Aside0.mk (Kd.R_over' HO_14.out (Kd.R_typed HO_4.out) (by decide) hg); have n1_ := Aside0.mk (blk_grown (g := gb197) (o := .cells #[.string ((rd_T119 t193 x16_1).f0), .string ((rd_T119 t193 x16_1).f1)] 119 (0, 0)) BK197.out hg (Kd.R_ne HO_4.out BK197.out (by decide))); have n2_ := Aside0.mk (hb); have n3_ := Aside0.mk (ho); clear HO_14; clear BK197; clear HB; clear HO_4; clear HO201; clear HO204; have HO_14 := n0_; have BK197 := n1_; have HB := n2_; have HO207 := n3_; clear n0_ n1_ n2_ n3_; clear ho hb hg hat))
         go_roundg k1
         case measure => have := HK1.out; omega
         case rel => exact ⟨(y205), (wrap64 (x16_1 + 1)), (by first | rfl), H', ⟨by have := HK1.out; omega⟩, ⟨by exact HO207.out⟩, ⟨by exact Kd.R_mono HO_14.out (fun _ hk => trivial)⟩, ⟨by exact HB.out⟩⟩
        ·rw [if_neg c14] at H
         exact absurd H (by simp)
       ·replace c12 := Bool.eq_false_iff.mpr c12
        subst c12
        have H1 : (sheet_Read.l0 k1 x4_1 t193 (t193.length : Int) (wrap64 (x16_1 + 1))) = some (r1, r2) := by rw [if_neg (show ¬ (false = true) by decide)] at H; exact H
        clear H
        have H := H1
        clear H1
        have H' := Aside0.mk H
        clear H
        have p196 : 0 ≤ (x16_1 : Int) := of_decide_eq_true (by first | (with_reducible assumption))
        have q196 : x16_1 < (t193.length : Int) := of_decide_eq_true (by first | (with_reducible assumption))
        obtain ⟨ad196, e196, hx196_0, hx196_1⟩ := at_T119 (Kd.R_reads' HO_14.out).2.2 x16_1 p196 q196
        cases e196
        replace p196 := eq_true p196
        replace q196 := eq_true q196
        go_wp2_with (first | ((with_reducible refine gate_dst (N := 6) rfl ?_); refine box_event ?hg (N := 6) ?hd (cs := #[.string (⟨#[]⟩ : ByteArray), .string (⟨#[]⟩ : ByteArray)]) (t := 119) ?hr ?_; (case hd => rfl); (case hg => rfl); (case hr => first | (go_simp; done)); intro gb197 hg w23 hbox hb; have n0_ := Aside0.mk (Kd.R_below HO_4.out hb); have n1_ := Aside0.mk (Kd.R_below (Kd.R_elderB HO_14.out gb197 (Nat.le_of_eq hg.symm)) hb); have n2_ := Aside0.mk (below_step HB.out hb); have n3_ := Aside0.mk (hbox); have n4_ := Aside0.mk ((by rw [hg]; exact (below_size HB.out) : w.heap.size ≤ gb197)); have n5_ := Aside0.mk ((by rw [hg]; exact (below_size HB.out) : w.heap.size ≤ gb197)); clear HO_4; clear HO_14; clear HB; have HO_4 := n0_; have HO_14 := n1_; have HB := n2_; have BK197 := n3_; have GW197 := n4_; have GE197 := n5_; clear n0_ n1_ n2_ n3_ n4_ n5_; clear hb hbox hg; have hcz24_0 : w23.cell? ⟨gb197, 0, none⟩ = some (.string (⟨#[]⟩ : ByteArray)) := (blk_cell BK197.out 0).trans rfl; have hcz24_1 : w23.cell? ⟨gb197, 1, none⟩ = some (.string (⟨#[]⟩ : ByteArray)) := (blk_cell BK197.out 1).trans rfl; have hfz24_0 := blk_frozen BK197.out 0; have hfz24_1 := blk_frozen BK197.out 1) | ((with_reducible refine gate_callee (f := 14) rfl ?_); refine goesL_ (some 23) rfl rfl Tryz.func14 (by kernel_rfl) rfl #[.string ((rd_T119 t193 x16_1).f0)] rfl (by (try simp only [List.map_toArray, List.map_cons, List.map_nil]); first | rfl) ?_; (with_reducible refine (selector_List.calls k1 ((rd_T119 t193 x16_1).f0) t198 false _ A11.out (HMX.out.below (by repeat (with_reducible first | exact HB.out | refine below_set ?_ GE197.out)))).mono ?_); rintro e w25 ⟨v200, rfl, ho0, hb⟩; refine ⟨_, rfl, ?_⟩; have n0_ := Aside0.mk (Kd.R_elder' (by exact (Kd.R_mono (Kd.R_far (p := ⟨gb197, 1, none⟩) (Kd.R_far (p := ⟨gb197, 0, none⟩) (Kd.R_types HO_4.out BK197.out (by decide)) (fun _ hk => hk.2) (.string ((rd_T119 t193 x16_1).f0))) (fun _ hk => hk.2) (.string ((rd_T119 t193 x16_1).f1))) (fun _ h_ => h_.1))) (Kd.R_base ho0) hb); have n1_ := Aside0.mk (Kd.R_below (by exact (Kd.R_mono (Kd.R_far (p := ⟨gb197, 1, none⟩) (Kd.R_far (p := ⟨gb197, 0, none⟩) (Kd.R_mono HO_14.out (fun k_ hk => (⟨hk, hk.2⟩ : _ ∧ k_ ≠ gb197))) (fun _ hk => hk.2) (.string ((rd_T119 t193 x16_1).f0))) (fun _ hk => hk.2) (.string ((rd_T119 t193 x16_1).f1))) (fun _ h_ => h_.1))) hb); have n2_ := Aside0.mk (Kd.R_lower ho0 (below_size (by repeat (with_reducible first | exact HB.out | refine below_set ?_ GE197.out)))); have n3_ := Aside0.mk (blk_below (g := gb197) (o := .cells #[.string ((rd_T119 t193 x16_1).f0), .string ((rd_T119 t193 x16_1).f1)] 119 (0, 0)) (by refine blk_put (cs := #[.string ((rd_T119 t193 x16_1).f0), .string (⟨#[]⟩ : ByteArray)]) ?_ 1 _ rfl; refine blk_put (cs := #[.string (⟨#[]⟩ : ByteArray), .string (⟨#[]⟩ : ByteArray)]) ?_ 0 _ rfl; exact BK197.out) hb); have n4_ := Aside0.mk (below_step (by repeat (with_reducible first | exact HB.out | refine below_set ?_ GE197.out)) hb); clear HO_4; clear HO_14; clear BK197; clear HB; have HO_4 := n0_; have HO_14 := n1_; have HO201 := n2_; have BK197 := n3_; have HB := n4_; clear n0_ n1_ n2_ n3_ n4_; (try clear hb); (try clear hb2); (try clear hk); (try clear hi); (try clear ho0)))
        go_roundg k1
        case measure => have := HK1.out; omega
        case rel => exact ⟨(x4_1), (wrap64 (x16_1 + 1)), (by first | rfl), H', ⟨by have := HK1.out; omega⟩, ⟨by exact Kd.R_mono HO_4.out (fun _ hk => trivial)⟩, ⟨by exact Kd.R_mono HO_14.out (fun _ hk => trivial)⟩, ⟨by exact HB.out⟩⟩
      ·rw [if_neg c10] at H
       exact absurd H (by simp)
     ·rw [if_neg c9] at H
      exact absurd H (by simp)
    ·rw [if_neg c8] at H
     have c8b0 : decide (x16_1 < (t193.length : Int)) = false := decide_eq_false c8
     clear c8
     by_cases c26 : (x4_1.length : Int) > 40
     ·rw [if_pos c26] at H
      have c26b0 : decide (40 < (x4_1.length : Int)) = true := decide_eq_true c26
      have c26b1 : decide (40 < x4_1.length) = true := decide_eq_true (by omega)
      clear c26
      simp only [Option.some.injEq, Prod.mk.injEq] at H
      obtain ⟨rfl, rfl⟩ := H
      obtain ⟨Ao27, co27, eo27⟩ := Kd.R_slice HO_4.out
      subst eo27
      go_wp2
      go_ret2
      exact ⟨_, by first | rfl, by exact Kd.R_nil _ _ _ _ _, by exact HB.out⟩
     ·rw [if_neg c26] at H
      have c26b0 : decide (40 < (x4_1.length : Int)) = false := decide_eq_false c26
      have c26b1 : decide (40 < x4_1.length) = false := decide_eq_false (by omega)
      clear c26
      simp only [Option.some.injEq, Prod.mk.injEq] at H
      obtain ⟨rfl, rfl⟩ := H
      obtain ⟨Ao28, co28, eo28⟩ := Kd.R_slice HO_4.out
      subst eo28
      go_wp2
      go_ret2
      exact ⟨_, by first | rfl, by exact HO_4.out, by exact HB.out⟩

/-! ### sheet_May: function 34 (by hand) -/
def sheet_May.smp (x : S80) : Go.Proofs.Tok.Smp := (x.f0, x.f1, x.f2, x.f3, x.f4)
def sheet_May.sel (x : S25) : Go.Proofs.Sht.Sel := (x.f0.map sheet_May.smp, x.f1)
def sheet_May.dc (x : S111) : Go.Proofs.Sht.Dc := (x.f0, x.f1.f0, x.f1.f1, x.f2)
def sheet_May.it (x : S115) : Go.Proofs.Sht.Rl := (x.f0.map sheet_May.sel, x.f1.map sheet_May.dc)
theorem sheet_May.it_C {w : World} {A : Option Addr} {n : Nat} {xs : List (S115)} (h : Kd.C k115 w A n xs) : Kd.C Go.Proofs.Sht.kRl w A n (xs.map sheet_May.it) := by
 refine Go.Proofs.Sht.C_to (d := k115) (d' := Go.Proofs.Sht.kRl) rfl (fun W x cs hK => ?_) h
 obtain ⟨A0, c0, A1, c1, rfl, l0, g0, l1, g1⟩ := k115_open hK
 refine ⟨[_], [_], rfl, ⟨A0, c0, by simp [sheet_May.it], by simpa [sheet_May.it] using l0, ?_⟩, ⟨A1, c1, by simp [sheet_May.it], by simpa [sheet_May.it] using l1, ?_⟩⟩
 ·have q := Go.Proofs.Sht.C_to (d := k25) (d' := Go.Proofs.Sht.kSel) (f := sheet_May.sel) rfl (fun W y cs hy => by
   obtain ⟨B0, b0, B1, b1, rfl, m0, q0, m1, q1⟩ := k25_open hy
   have q2 := Go.Proofs.Tok.C_iso (d := Go.Proofs.Tok.kSmp) (f := sheet_May.smp) q0
   exact ⟨[_], [_], rfl, ⟨B0, b0, by simp [sheet_May.sel], by simpa [sheet_May.sel] using m0, by simpa [sheet_May.sel] using q2⟩, ⟨B1, b1, rfl, m1, q1⟩⟩) g0
  simpa [sheet_May.it] using q
 ·have q := Go.Proofs.Sht.C_to (d := k111) (d' := Go.Proofs.Sht.kDc) (f := sheet_May.dc) rfl (fun W y cs hy => by
   obtain ⟨_, _, rfl, rfl, ⟨_, _, rfl, ⟨_, _, rfl, rfl, rfl⟩, rfl⟩⟩ := hy
   exact ⟨[.int .i64 y.f0], [.int .i64 y.f1.f0, .int .i64 y.f1.f1, .bool y.f2], rfl, rfl, ⟨[.int .i64 y.f1.f0], [.int .i64 y.f1.f1, .bool y.f2], rfl, rfl, ⟨[.int .i64 y.f1.f1], [.bool y.f2], rfl, rfl, rfl⟩⟩⟩) g1
  simpa [sheet_May.it] using q
def sheet_May.f (l0 : List (S115)) : Option Bool := if l0.length ≤ 8796093022208 ∧ ∀ x ∈ l0.map sheet_May.it, Go.Proofs.Sht.fitR x then some (Go.Proofs.Sht.mayL (l0.map sheet_May.it)) else none
theorem sheet_May.calls (A0 : Option Addr) (c0 : Nat) (l0 : List (S115)) (r : Bool) (w : World) (hr0 : Kd.C k115 w A0 l0.length l0) (hc0 : l0.length ≤ c0) (h : sheet_May.f l0 = some r) :
  Calls Tryz.prog 34 #[.slice A0 l0.length c0] w fun e w' => e = .returned (.bool r) ∧ Below w.heap.size w w' := by
 unfold sheet_May.f at h
 by_cases h1 : l0.length ≤ 8796093022208 ∧ ∀ x ∈ l0.map sheet_May.it, Go.Proofs.Sht.fitR x
 ·rw [if_pos h1] at h
  cases h
  have q := Go.Proofs.Sht.MayC (l0.map sheet_May.it) A0 c0 w (by rw [List.length_map]; exact sheet_May.it_C hr0) (by rw [List.length_map]; exact h1.1) h1.2
  rw [List.length_map] at q
  exact q
 ·rw [if_neg h1] at h; cases h


/-! ### sheet_Print: function 36 (by hand) -/
def sheet_Print.smp (x : S80) : Go.Proofs.Tok.Smp := (x.f0, x.f1, x.f2, x.f3, x.f4)
def sheet_Print.sel (x : S25) : Go.Proofs.Sht.Sel := (x.f0.map sheet_Print.smp, x.f1)
def sheet_Print.dc (x : S111) : Go.Proofs.Sht.Dc := (x.f0, x.f1.f0, x.f1.f1, x.f2)
def sheet_Print.it (x : S115) : Go.Proofs.Sht.Rl := (x.f0.map sheet_Print.sel, x.f1.map sheet_Print.dc)
theorem sheet_Print.it_C {w : World} {A : Option Addr} {n : Nat} {xs : List (S115)} (h : Kd.C k115 w A n xs) : Kd.C Go.Proofs.Sht.kRl w A n (xs.map sheet_Print.it) := by
 refine Go.Proofs.Sht.C_to (d := k115) (d' := Go.Proofs.Sht.kRl) rfl (fun W x cs hK => ?_) h
 obtain ⟨A0, c0, A1, c1, rfl, l0, g0, l1, g1⟩ := k115_open hK
 refine ⟨[_], [_], rfl, ⟨A0, c0, by simp [sheet_Print.it], by simpa [sheet_Print.it] using l0, ?_⟩, ⟨A1, c1, by simp [sheet_Print.it], by simpa [sheet_Print.it] using l1, ?_⟩⟩
 ·have q := Go.Proofs.Sht.C_to (d := k25) (d' := Go.Proofs.Sht.kSel) (f := sheet_Print.sel) rfl (fun W y cs hy => by
   obtain ⟨B0, b0, B1, b1, rfl, m0, q0, m1, q1⟩ := k25_open hy
   have q2 := Go.Proofs.Tok.C_iso (d := Go.Proofs.Tok.kSmp) (f := sheet_Print.smp) q0
   exact ⟨[_], [_], rfl, ⟨B0, b0, by simp [sheet_Print.sel], by simpa [sheet_Print.sel] using m0, by simpa [sheet_Print.sel] using q2⟩, ⟨B1, b1, rfl, m1, q1⟩⟩) g0
  simpa [sheet_Print.it] using q
 ·have q := Go.Proofs.Sht.C_to (d := k111) (d' := Go.Proofs.Sht.kDc) (f := sheet_Print.dc) rfl (fun W y cs hy => by
   obtain ⟨_, _, rfl, rfl, ⟨_, _, rfl, ⟨_, _, rfl, rfl, rfl⟩, rfl⟩⟩ := hy
   exact ⟨[.int .i64 y.f0], [.int .i64 y.f1.f0, .int .i64 y.f1.f1, .bool y.f2], rfl, rfl, ⟨[.int .i64 y.f1.f0], [.int .i64 y.f1.f1, .bool y.f2], rfl, rfl, ⟨[.int .i64 y.f1.f1], [.bool y.f2], rfl, rfl, rfl⟩⟩⟩) g1
  simpa [sheet_Print.it] using q
def sheet_Print.f (l0 : List (S115)) : Option ByteArray := if l0.length ≤ 8796093022208 ∧ (∀ x ∈ l0.map sheet_Print.it, Go.Proofs.Sht.fitR x) ∧ ∀ x ∈ l0.map sheet_Print.it, Go.Proofs.Sht.txtR x then some (Go.Proofs.Sht.printR (l0.map sheet_Print.it)) else none
theorem sheet_Print.calls (A0 : Option Addr) (c0 : Nat) (l0 : List (S115)) (r : ByteArray) (w : World) (hr0 : Kd.C k115 w A0 l0.length l0) (hc0 : l0.length ≤ c0) (h : sheet_Print.f l0 = some r) (hmx : Go.Proofs.Sht.Env w) :
  Calls Tryz.prog 36 #[.slice A0 l0.length c0] w fun e w' => e = .returned (.string r) ∧ Below w.heap.size w w' := by
 unfold sheet_Print.f at h
 by_cases h1 : l0.length ≤ 8796093022208 ∧ (∀ x ∈ l0.map sheet_Print.it, Go.Proofs.Sht.fitR x) ∧ ∀ x ∈ l0.map sheet_Print.it, Go.Proofs.Sht.txtR x
 ·rw [if_pos h1] at h
  cases h
  have q := Go.Proofs.Sht.PrintC (l0.map sheet_Print.it) A0 c0 w (by rw [List.length_map]; exact sheet_Print.it_C hr0) (by rw [List.length_map]; exact h1.1) h1.2.1 (fun _ => h1.2.2) hmx.2
  rw [List.length_map] at q
  exact q
 ·rw [if_neg h1] at h; cases h


/-! ### sheet_Same: function 38 (by hand) -/
def sheet_Same.smp (x : S80) : Go.Proofs.Tok.Smp := (x.f0, x.f1, x.f2, x.f3, x.f4)
def sheet_Same.sel (x : S25) : Go.Proofs.Sht.Sel := (x.f0.map sheet_Same.smp, x.f1)
def sheet_Same.dc (x : S111) : Go.Proofs.Sht.Dc := (x.f0, x.f1.f0, x.f1.f1, x.f2)
def sheet_Same.it (x : S115) : Go.Proofs.Sht.Rl := (x.f0.map sheet_Same.sel, x.f1.map sheet_Same.dc)
theorem sheet_Same.it_C {w : World} {A : Option Addr} {n : Nat} {xs : List (S115)} (h : Kd.C k115 w A n xs) : Kd.C Go.Proofs.Sht.kRl w A n (xs.map sheet_Same.it) := by
 refine Go.Proofs.Sht.C_to (d := k115) (d' := Go.Proofs.Sht.kRl) rfl (fun W x cs hK => ?_) h
 obtain ⟨A0, c0, A1, c1, rfl, l0, g0, l1, g1⟩ := k115_open hK
 refine ⟨[_], [_], rfl, ⟨A0, c0, by simp [sheet_Same.it], by simpa [sheet_Same.it] using l0, ?_⟩, ⟨A1, c1, by simp [sheet_Same.it], by simpa [sheet_Same.it] using l1, ?_⟩⟩
 ·have q := Go.Proofs.Sht.C_to (d := k25) (d' := Go.Proofs.Sht.kSel) (f := sheet_Same.sel) rfl (fun W y cs hy => by
   obtain ⟨B0, b0, B1, b1, rfl, m0, q0, m1, q1⟩ := k25_open hy
   have q2 := Go.Proofs.Tok.C_iso (d := Go.Proofs.Tok.kSmp) (f := sheet_Same.smp) q0
   exact ⟨[_], [_], rfl, ⟨B0, b0, by simp [sheet_Same.sel], by simpa [sheet_Same.sel] using m0, by simpa [sheet_Same.sel] using q2⟩, ⟨B1, b1, rfl, m1, q1⟩⟩) g0
  simpa [sheet_Same.it] using q
 ·have q := Go.Proofs.Sht.C_to (d := k111) (d' := Go.Proofs.Sht.kDc) (f := sheet_Same.dc) rfl (fun W y cs hy => by
   obtain ⟨_, _, rfl, rfl, ⟨_, _, rfl, ⟨_, _, rfl, rfl, rfl⟩, rfl⟩⟩ := hy
   exact ⟨[.int .i64 y.f0], [.int .i64 y.f1.f0, .int .i64 y.f1.f1, .bool y.f2], rfl, rfl, ⟨[.int .i64 y.f1.f0], [.int .i64 y.f1.f1, .bool y.f2], rfl, rfl, ⟨[.int .i64 y.f1.f1], [.bool y.f2], rfl, rfl, rfl⟩⟩⟩) g1
  simpa [sheet_Same.it] using q
def sheet_Same.f (l0 : List (S115)) (l1 : List (S115)) : Option Bool := if l0.length ≤ 1000000 ∧ l1.length ≤ 1000000 ∧ (∀ x ∈ l0.map sheet_Same.it, Go.Proofs.Sht.lenR x) ∧ ∀ x ∈ l1.map sheet_Same.it, Go.Proofs.Sht.lenR x then some (decide (l0.map sheet_Same.it = l1.map sheet_Same.it)) else none
theorem sheet_Same.calls (A0 : Option Addr) (c0 : Nat) (l0 : List (S115)) (A1 : Option Addr) (c1 : Nat) (l1 : List (S115)) (r : Bool) (w : World) (hr0 : Kd.C k115 w A0 l0.length l0) (hc0 : l0.length ≤ c0) (hr1 : Kd.C k115 w A1 l1.length l1) (hc1 : l1.length ≤ c1) (h : sheet_Same.f l0 l1 = some r) :
  Calls Tryz.prog 38 #[.slice A0 l0.length c0, .slice A1 l1.length c1] w fun e w' => e = .returned (.bool r) ∧ Below w.heap.size w w' := by
 unfold sheet_Same.f at h
 by_cases h1 : l0.length ≤ 1000000 ∧ l1.length ≤ 1000000 ∧ (∀ x ∈ l0.map sheet_Same.it, Go.Proofs.Sht.lenR x) ∧ ∀ x ∈ l1.map sheet_Same.it, Go.Proofs.Sht.lenR x
 ·rw [if_pos h1] at h
  cases h
  have q := Go.Proofs.Sht.SameC (l0.map sheet_Same.it) (l1.map sheet_Same.it) A0 A1 c0 c1 w (by rw [List.length_map]; exact sheet_Same.it_C hr0) (by rw [List.length_map]; exact sheet_Same.it_C hr1) (by rw [List.length_map]; exact h1.1) (by rw [List.length_map]; exact h1.2.1) h1.2.2.1 h1.2.2.2
  rw [List.length_map, List.length_map] at q
  exact q
 ·rw [if_neg h1] at h; cases h


/-! ### scrimlaw10_awake: function 24 -/
def scrimlaw10_awake.f (k : Nat)  : Option (Bool) := (sheet_Read.f k (⟨#[97, 123, 99, 111, 108, 111, 114, 58, 82, 69, 68, 59, 120, 58, 121, 59, 111, 114, 100, 101, 114, 58, 49, 33, 105, 109, 112, 111, 114, 116, 97, 110, 116, 125, 47, 42, 122, 42, 47, 98, 44, 123, 125]⟩ : ByteArray)).bind fun bt208 => ((sheet_Decls.f k (⟨#[109, 97, 114, 103, 105, 110, 58, 32, 49, 112, 120, 32, 50, 112, 120, 32, 51, 112, 120, 59, 32, 112, 97, 100, 100, 105, 110, 103, 58, 32, 49, 112, 120, 32, 120]⟩ : ByteArray)).bind fun t212 => (if bt208.2 = 0 then ((sheet_Print.f bt208.1).bind fun t215 => (if t215.toList = ([97, 32, 123, 32, 99, 111, 108, 111, 114, 58, 32, 35, 102, 102, 48, 48, 48, 48, 59, 32, 111, 114, 100, 101, 114, 58, 32, 49, 32, 33, 105, 109, 112, 111, 114, 116, 97, 110, 116, 59, 32, 125, 10] : List UInt8) then ((sheet_May.f bt208.1).bind fun t216 => (if t216 = true then ((sheet_Same.f bt208.1 bt208.1).bind fun t217 => (if t217 = true then ((sheet_Same.f bt208.1 ([] : List (S115))).bind fun t218 => (if t218 = true then (some false) else (if (t212.length : Int) = 4 then (if 2 < (t212.length : Int) then (if ((rd_T111 t212 2).f0) = 6 then (if ((rd_T111 t212 2).f1.f1) = 192 then (if 3 < (t212.length : Int) then (some (((rd_T111 t212 3).f1.f1) == 128)) else (none)) else (some false)) else (some false)) else (none)) else (some false)))) else (some false))) else (some false))) else (some false))) else (some false)))
theorem scrimlaw10_awake.mono : ∀ k, LeO (scrimlaw10_awake.f k ) (scrimlaw10_awake.f (k + 1) ) := by
 intro  k
 unfold scrimlaw10_awake.f
 repeat' first
   | (with_reducible exact sheet_Decls.mono _ _)
   | (with_reducible exact sheet_Read.mono _ _)
   | (with_reducible exact LeO.refl _)
   | (with_reducible exact LeO.none _)
   | (with_reducible refine LeO.ite ?_ ?_)
   | (with_reducible refine LeO.bind ?_ (fun _ => ?_))
   | exact sheet_Decls.mono _ _
   | exact sheet_Read.mono _ _
   | exact LeO.none _
   | refine LeO.ite ?_ ?_
   | refine LeO.bind ?_ (fun _ => ?_)
set_option maxHeartbeats 8000000 in
set_option maxRecDepth 100000 in
theorem scrimlaw10_awake.calls (k : Nat)  (r : Bool) (hrt : r = true) (w : World) (h : scrimlaw10_awake.f k  = some r) (hmx : Go.Proofs.Sht.Env w) :
  Calls Tryz.prog 24 #[] w fun e w' => e = .returned (.bool r) ∧ Below w.heap.size w w' := by
 have HMX := Aside0.mk hmx
 clear hmx
 have HB := Aside0.mk (Below.refl w.heap.size w)
 have H : ((sheet_Read.f k (⟨#[97, 123, 99, 111, 108, 111, 114, 58, 82, 69, 68, 59, 120, 58, 121, 59, 111, 114, 100, 101, 114, 58, 49, 33, 105, 109, 112, 111, 114, 116, 97, 110, 116, 125, 47, 42, 122, 42, 47, 98, 44, 123, 125]⟩ : ByteArray)).bind fun bt208 => ((sheet_Decls.f k (⟨#[109, 97, 114, 103, 105, 110, 58, 32, 49, 112, 120, 32, 50, 112, 120, 32, 51, 112, 120, 59, 32, 112, 97, 100, 100, 105, 110, 103, 58, 32, 49, 112, 120, 32, 120]⟩ : ByteArray)).bind fun t212 => (if bt208.2 = 0 then ((sheet_Print.f bt208.1).bind fun t215 => (if t215.toList = ([97, 32, 123, 32, 99, 111, 108, 111, 114, 58, 32, 35, 102, 102, 48, 48, 48, 48, 59, 32, 111, 114, 100, 101, 114, 58, 32, 49, 32, 33, 105, 109, 112, 111, 114, 116, 97, 110, 116, 59, 32, 125, 10] : List UInt8) then ((sheet_May.f bt208.1).bind fun t216 => (if t216 = true then ((sheet_Same.f bt208.1 bt208.1).bind fun t217 => (if t217 = true then ((sheet_Same.f bt208.1 ([] : List (S115))).bind fun t218 => (if t218 = true then (some false) else (if (t212.length : Int) = 4 then (if 2 < (t212.length : Int) then (if ((rd_T111 t212 2).f0) = 6 then (if ((rd_T111 t212 2).f1.f1) = 192 then (if 3 < (t212.length : Int) then (some (((rd_T111 t212 3).f1.f1) == 128)) else (none)) else (some false)) else (some false)) else (none)) else (some false)))) else (some false))) else (some false))) else (some false))) else (some false)))) = some r := h
 clear h
 replace H := Option.bind_eq_some_iff.mp H
 obtain ⟨⟨t208, t209⟩, A10, H⟩ := H
 replace H : ((sheet_Decls.f k (⟨#[109, 97, 114, 103, 105, 110, 58, 32, 49, 112, 120, 32, 50, 112, 120, 32, 51, 112, 120, 59, 32, 112, 97, 100, 100, 105, 110, 103, 58, 32, 49, 112, 120, 32, 120]⟩ : ByteArray)).bind fun t212 => (if t209 = 0 then ((sheet_Print.f t208).bind fun t215 => (if t215.toList = ([97, 32, 123, 32, 99, 111, 108, 111, 114, 58, 32, 35, 102, 102, 48, 48, 48, 48, 59, 32, 111, 114, 100, 101, 114, 58, 32, 49, 32, 33, 105, 109, 112, 111, 114, 116, 97, 110, 116, 59, 32, 125, 10] : List UInt8) then ((sheet_May.f t208).bind fun t216 => (if t216 = true then ((sheet_Same.f t208 t208).bind fun t217 => (if t217 = true then ((sheet_Same.f t208 ([] : List (S115))).bind fun t218 => (if t218 = true then (some false) else (if (t212.length : Int) = 4 then (if 2 < (t212.length : Int) then (if ((rd_T111 t212 2).f0) = 6 then (if ((rd_T111 t212 2).f1.f1) = 192 then (if 3 < (t212.length : Int) then (some (((rd_T111 t212 3).f1.f1) == 128)) else (none)) else (some false)) else (some false)) else (none)) else (some false)))) else (some false))) else (some false))) else (some false))) else (some false))) = some r := H
 have A1 := Aside0.mk A10
 clear A10
 replace H := Option.bind_eq_some_iff.mp H
 obtain ⟨t212, A20, H⟩ := H
 replace H : (if t209 = 0 then ((sheet_Print.f t208).bind fun t215 => (if t215.toList = ([97, 32, 123, 32, 99, 111, 108, 111, 114, 58, 32, 35, 102, 102, 48, 48, 48, 48, 59, 32, 111, 114, 100, 101, 114, 58, 32, 49, 32, 33, 105, 109, 112, 111, 114, 116, 97, 110, 116, 59, 32, 125, 10] : List UInt8) then ((sheet_May.f t208).bind fun t216 => (if t216 = true then ((sheet_Same.f t208 t208).bind fun t217 => (if t217 = true then ((sheet_Same.f t208 ([] : List (S115))).bind fun t218 => (if t218 = true then (some false) else (if (t212.length : Int) = 4 then (if 2 < (t212.length : Int) then (if ((rd_T111 t212 2).f0) = 6 then (if ((rd_T111 t212 2).f1.f1) = 192 then (if 3 < (t212.length : Int) then (some (((rd_T111 t212 3).f1.f1) == 128)) else (none)) else (some false)) else (some false)) else (none)) else (some false)))) else (some false))) else (some false))) else (some false))) else (some false)) = some r := H
 have A2 := Aside0.mk A20
 clear A20
 by_cases c3 : t209 = 0
 ·rw [if_pos c3] at H
  have c3b0 : (t209 == 0) = true := beq_iff_eq.mpr c3
  have c3b1 : (t209 != 0) = false := bne_eq_false_iff_eq.mpr c3
  clear c3
  replace H := Option.bind_eq_some_iff.mp H
  obtain ⟨t215, A40, H⟩ := H
  replace H : (if t215.toList = ([97, 32, 123, 32, 99, 111, 108, 111, 114, 58, 32, 35, 102, 102, 48, 48, 48, 48, 59, 32, 111, 114, 100, 101, 114, 58, 32, 49, 32, 33, 105, 109, 112, 111, 114, 116, 97, 110, 116, 59, 32, 125, 10] : List UInt8) then ((sheet_May.f t208).bind fun t216 => (if t216 = true then ((sheet_Same.f t208 t208).bind fun t217 => (if t217 = true then ((sheet_Same.f t208 ([] : List (S115))).bind fun t218 => (if t218 = true then (some false) else (if (t212.length : Int) = 4 then (if 2 < (t212.length : Int) then (if ((rd_T111 t212 2).f0) = 6 then (if ((rd_T111 t212 2).f1.f1) = 192 then (if 3 < (t212.length : Int) then (some (((rd_T111 t212 3).f1.f1) == 128)) else (none)) else (some false)) else (some false)) else (none)) else (some false)))) else (some false))) else (some false))) else (some false)) = some r := H
  have A4 := Aside0.mk A40
  clear A40
  by_cases c5 : t215.toList = ([97, 32, 123, 32, 99, 111, 108, 111, 114, 58, 32, 35, 102, 102, 48, 48, 48, 48, 59, 32, 111, 114, 100, 101, 114, 58, 32, 49, 32, 33, 105, 109, 112, 111, 114, 116, 97, 110, 116, 59, 32, 125, 10] : List UInt8)
  ·rw [if_pos c5] at H
   have c5b0 : (t215.toList == ([97, 32, 123, 32, 99, 111, 108, 111, 114, 58, 32, 35, 102, 102, 48, 48, 48, 48, 59, 32, 111, 114, 100, 101, 114, 58, 32, 49, 32, 33, 105, 109, 112, 111, 114, 116, 97, 110, 116, 59, 32, 125, 10] : List UInt8)) = true := beq_iff_eq.mpr c5
   have c5b1 : (t215.toList != ([97, 32, 123, 32, 99, 111, 108, 111, 114, 58, 32, 35, 102, 102, 48, 48, 48, 48, 59, 32, 111, 114, 100, 101, 114, 58, 32, 49, 32, 33, 105, 109, 112, 111, 114, 116, 97, 110, 116, 59, 32, 125, 10] : List UInt8)) = false := bne_eq_false_iff_eq.mpr c5
   clear c5
   replace H := Option.bind_eq_some_iff.mp H
   obtain ⟨t216, A60, H⟩ := H
   replace H : (if t216 = true then ((sheet_Same.f t208 t208).bind fun t217 => (if t217 = true then ((sheet_Same.f t208 ([] : List (S115))).bind fun t218 => (if t218 = true then (some false) else (if (t212.length : Int) = 4 then (if 2 < (t212.length : Int) then (if ((rd_T111 t212 2).f0) = 6 then (if ((rd_T111 t212 2).f1.f1) = 192 then (if 3 < (t212.length : Int) then (some (((rd_T111 t212 3).f1.f1) == 128)) else (none)) else (some false)) else (some false)) else (none)) else (some false)))) else (some false))) else (some false)) = some r := H
   have A6 := Aside0.mk A60
   clear A60
   by_cases c7 : t216 = true
   ·subst c7
    have H1 : ((sheet_Same.f t208 t208).bind fun t217 => (if t217 = true then ((sheet_Same.f t208 ([] : List (S115))).bind fun t218 => (if t218 = true then (some false) else (if (t212.length : Int) = 4 then (if 2 < (t212.length : Int) then (if ((rd_T111 t212 2).f0) = 6 then (if ((rd_T111 t212 2).f1.f1) = 192 then (if 3 < (t212.length : Int) then (some (((rd_T111 t212 3).f1.f1) == 128)) else (none)) else (some false)) else (some false)) else (none)) else (some false)))) else (some false))) = some r := by rw [if_pos rfl] at H; exact H
    clear H
    have H := H1
    clear H1
    replace H := Option.bind_eq_some_iff.mp H
    obtain ⟨t217, A80, H⟩ := H
    replace H : (if t217 = true then ((sheet_Same.f t208 ([] : List (S115))).bind fun t218 => (if t218 = true then (some false) else (if (t212.length : Int) = 4 then (if 2 < (t212.length : Int) then (if ((rd_T111 t212 2).f0) = 6 then (if ((rd_T111 t212 2).f1.f1) = 192 then (if 3 < (t212.length : Int) then (some (((rd_T111 t212 3).f1.f1) == 128)) else (none)) else (some false)) else (some false)) else (none)) else (some false)))) else (some false)) = some r := H
    have A8 := Aside0.mk A80
    clear A80
    by_cases c9 : t217 = true
    ·subst c9
     have H1 : ((sheet_Same.f t208 ([] : List (S115))).bind fun t218 => (if t218 = true then (some false) else (if (t212.length : Int) = 4 then (if 2 < (t212.length : Int) then (if ((rd_T111 t212 2).f0) = 6 then (if ((rd_T111 t212 2).f1.f1) = 192 then (if 3 < (t212.length : Int) then (some (((rd_T111 t212 3).f1.f1) == 128)) else (none)) else (some false)) else (some false)) else (none)) else (some false)))) = some r := by rw [if_pos rfl] at H; exact H
     clear H
     have H := H1
     clear H1
     replace H := Option.bind_eq_some_iff.mp H
     obtain ⟨t218, A100, H⟩ := H
     replace H : (if t218 = true then (some false) else (if (t212.length : Int) = 4 then (if 2 < (t212.length : Int) then (if ((rd_T111 t212 2).f0) = 6 then (if ((rd_T111 t212 2).f1.f1) = 192 then (if 3 < (t212.length : Int) then (some (((rd_T111 t212 3).f1.f1) == 128)) else (none)) else (some false)) else (some false)) else (none)) else (some false))) = some r := H
     have A10 := Aside0.mk A100
     clear A100
     by_cases c11 : t218 = true
     ·subst c11
      have H1 : (some false) = some r := by rw [if_pos rfl] at H; exact H
      clear H
      have H := H1
      clear H1
      exact absurd ((Option.some.inj H).trans hrt) (by decide)
     ·replace c11 := Bool.eq_false_iff.mpr c11
      subst c11
      have H1 : (if (t212.length : Int) = 4 then (if 2 < (t212.length : Int) then (if ((rd_T111 t212 2).f0) = 6 then (if ((rd_T111 t212 2).f1.f1) = 192 then (if 3 < (t212.length : Int) then (some (((rd_T111 t212 3).f1.f1) == 128)) else (none)) else (some false)) else (some false)) else (none)) else (some false)) = some r := by rw [if_neg (show ¬ (false = true) by decide)] at H; exact H
      clear H
      have H := H1
      clear H1
      by_cases c19 : (t212.length : Int) = 4
      ·rw [if_pos c19] at H
       have c19b0 : ((t212.length : Int) == 4) = true := beq_iff_eq.mpr c19
       have c19b1 : ((t212.length : Int) != 4) = false := bne_eq_false_iff_eq.mpr c19
       clear c19
       by_cases c20 : 2 < (t212.length : Int)
       ·rw [if_pos c20] at H
        have c20b0 : decide (2 < (t212.length : Int)) = true := decide_eq_true c20
        have c20b1 : decide (2 < t212.length) = true := decide_eq_true (by omega)
        clear c20
        by_cases c21 : ((rd_T111 t212 2).f0) = 6
        ·rw [if_pos c21] at H
         have c21b0 : (((rd_T111 t212 2).f0) == 6) = true := beq_iff_eq.mpr c21
         have c21b1 : (((rd_T111 t212 2).f0) != 6) = false := bne_eq_false_iff_eq.mpr c21
         clear c21
         by_cases c22 : ((rd_T111 t212 2).f1.f1) = 192
         ·rw [if_pos c22] at H
          have c22b0 : (((rd_T111 t212 2).f1.f1) == 192) = true := beq_iff_eq.mpr c22
          have c22b1 : (((rd_T111 t212 2).f1.f1) != 192) = false := bne_eq_false_iff_eq.mpr c22
          clear c22
          by_cases c23 : 3 < (t212.length : Int)
          ·rw [if_pos c23] at H
           have c23b0 : decide (3 < (t212.length : Int)) = true := decide_eq_true c23
           have c23b1 : decide (3 < t212.length) = true := decide_eq_true (by omega)
           clear c23
           obtain rfl := Option.some.inj H; clear hrt; try clear H
           go_enter Tryz.func24, Tryz.ntmps24
           go_wp2_with (first | ((with_reducible refine gate_callee (f := 27) rfl ?_); refine goesL_ (some 5) rfl rfl Tryz.func27 (by kernel_rfl) rfl #[.string (⟨#[97, 123, 99, 111, 108, 111, 114, 58, 82, 69, 68, 59, 120, 58, 121, 59, 111, 114, 100, 101, 114, 58, 49, 33, 105, 109, 112, 111, 114, 116, 97, 110, 116, 125, 47, 42, 122, 42, 47, 98, 44, 123, 125]⟩ : ByteArray)] rfl (by (try simp only [List.map_toArray, List.map_cons, List.map_nil]); first | rfl) ?_; (with_reducible refine (sheet_Read.calls k (⟨#[97, 123, 99, 111, 108, 111, 114, 58, 82, 69, 68, 59, 120, 58, 121, 59, 111, 114, 100, 101, 114, 58, 49, 33, 105, 109, 112, 111, 114, 116, 97, 110, 116, 125, 47, 42, 122, 42, 47, 98, 44, 123, 125]⟩ : ByteArray) t208 t209 _ A1.out (HMX.out.below HB.out)).mono ?_); rintro e w24 ⟨v210, rfl, ho0, hb⟩; refine ⟨_, rfl, ?_⟩; have n0_ := Aside0.mk (Kd.R_lower ho0 (below_size HB.out)); have n1_ := Aside0.mk (below_step HB.out hb); clear HB; have HO211 := n0_; have HB := n1_; clear n0_ n1_; (try clear hb); (try clear hb2); (try clear hk); (try clear hi); (try clear ho0)) | ((with_reducible refine gate_callee (f := 32) rfl ?_); refine goesL_ (some 8) rfl rfl Tryz.func32 (by kernel_rfl) rfl #[.string (⟨#[109, 97, 114, 103, 105, 110, 58, 32, 49, 112, 120, 32, 50, 112, 120, 32, 51, 112, 120, 59, 32, 112, 97, 100, 100, 105, 110, 103, 58, 32, 49, 112, 120, 32, 120]⟩ : ByteArray)] rfl (by (try simp only [List.map_toArray, List.map_cons, List.map_nil]); first | rfl) ?_; (with_reducible refine (sheet_Decls.calls k (⟨#[109, 97, 114, 103, 105, 110, 58, 32, 49, 112, 120, 32, 50, 112, 120, 32, 51, 112, 120, 59, 32, 112, 97, 100, 100, 105, 110, 103, 58, 32, 49, 112, 120, 32, 120]⟩ : ByteArray) t212 _ A2.out).mono ?_); rintro e w25 ⟨v213, rfl, ho0, hb⟩; refine ⟨_, rfl, ?_⟩; have n0_ := Aside0.mk (Kd.R_elder' HO211.out (Kd.R_base ho0) hb); have n1_ := Aside0.mk (Kd.R_lower ho0 (below_size HB.out)); have n2_ := Aside0.mk (below_step HB.out hb); clear HO211; clear HB; have HO211 := n0_; have HO214 := n1_; have HB := n2_; clear n0_ n1_ n2_; (try clear hb); (try clear hb2); (try clear hk); (try clear hi); (try clear ho0); obtain ⟨Ao26, co26, eo26⟩ := Kd.R_slice HO211.out; subst eo26) | (go_at_call 36; (with_reducible refine (sheet_Print.calls _ _ t208 t215 _ ?side1 ?side2 A4.out (HMX.out.below HB.out)).mono ?_); (case side1 => repeat (first | exact (Kd.R_reads' HO211.out).2.2)); (case side2 => exact (Kd.R_reads' HO211.out).2.1); rintro e w27 ⟨rfl, hb⟩; have n0_ := Aside0.mk (Kd.R_below HO211.out hb); have n1_ := Aside0.mk (Kd.R_below HO214.out hb); have n2_ := Aside0.mk (below_step HB.out hb); clear HO211; clear HO214; clear HB; have HO211 := n0_; have HO214 := n1_; have HB := n2_; clear n0_ n1_ n2_; (try clear hb); (try clear hb2); (try clear hk); (try clear hi)) | (go_at_call 34; (with_reducible refine (sheet_May.calls _ _ t208 true _ ?side1 ?side2 A6.out).mono ?_); (case side1 => repeat (first | exact (Kd.R_reads' HO211.out).2.2)); (case side2 => exact (Kd.R_reads' HO211.out).2.1); rintro e w28 ⟨rfl, hb⟩; have n0_ := Aside0.mk (Kd.R_below HO211.out hb); have n1_ := Aside0.mk (Kd.R_below HO214.out hb); have n2_ := Aside0.mk (below_step HB.out hb); clear HO211; clear HO214; clear HB; have HO211 := n0_; have HO214 := n1_; have HB := n2_; clear n0_ n1_ n2_; (try clear hb); (try clear hb2); (try clear hk); (try clear hi)) | (go_at_call 38; (with_reducible refine (sheet_Same.calls _ _ t208 _ _ t208 true _ ?side1 ?side2 ?side3 ?side4 A8.out).mono ?_); (case side1 => repeat (first | exact (Kd.R_reads' HO211.out).2.2)); (case side2 => exact (Kd.R_reads' HO211.out).2.1); (case side3 => repeat (first | exact (Kd.R_reads' HO211.out).2.2)); (case side4 => exact (Kd.R_reads' HO211.out).2.1); rintro e w29 ⟨rfl, hb⟩; have n0_ := Aside0.mk (Kd.R_below HO211.out hb); have n1_ := Aside0.mk (Kd.R_below HO214.out hb); have n2_ := Aside0.mk (below_step HB.out hb); clear HO211; clear HO214; clear HB; have HO211 := n0_; have HO214 := n1_; have HB := n2_; clear n0_ n1_ n2_; (try clear hb); (try clear hb2); (try clear hk); (try clear hi)) | (go_at_call 38; (refine (sheet_Same.calls _ _ t208 _ _ ([] : List (S115)) false _ ?side1 ?side2 ?side3 ?side4 A10.out).mono ?_); (case side1 => repeat (first | exact (Kd.R_reads' HO211.out).2.2)); (case side2 => exact (Kd.R_reads' HO211.out).2.1); (case side3 => exact Kd.C_nil _ _); (case side4 => exact Nat.le_refl _); rintro e w30 ⟨rfl, hb⟩; have n0_ := Aside0.mk (Kd.R_below HO211.out hb); have n1_ := Aside0.mk (Kd.R_below HO214.out hb); have n2_ := Aside0.mk (below_step HB.out hb); clear HO211; clear HO214; clear HB; have HO211 := n0_; have HO214 := n1_; have HB := n2_; clear n0_ n1_ n2_; (try clear hb); (try clear hb2); (try clear hk); (try clear hi); obtain ⟨Ao31, co31, eo31⟩ := Kd.R_slice HO214.out; subst eo31; have p219 : 0 ≤ (2 : Int) := (by omega); have q219 : 2 < (t212.length : Int) := of_decide_eq_true (by first | (with_reducible assumption)); obtain ⟨ad219, e219, hx219_0, hx219_1, hx219_2, hx219_3⟩ := at_T111 (Kd.R_reads' HO214.out).2.2 2 p219 q219; cases e219; (try simp only [show (2 : Int).toNat = 2 from rfl, Nat.reduceMul, Nat.reduceEqDiff, Go.Addr.add, ↓reduceIte] at hx219_0); (try simp only [show (2 : Int).toNat = 2 from rfl, Nat.reduceMul, Nat.reduceEqDiff, Go.Addr.add, ↓reduceIte] at hx219_1); (try simp only [show (2 : Int).toNat = 2 from rfl, Nat.reduceMul, Nat.reduceEqDiff, Go.Addr.add, ↓reduceIte] at hx219_2); (try simp only [show (2 : Int).toNat = 2 from rfl, Nat.reduceMul, Nat.reduceEqDiff, Go.Addr.add, ↓reduceIte] at hx219_3); have qi219 : (2 < t212.length) = True := eq_true (by omega); (try rw [show ((2 : Int)).toNat = 2 from rfl] at hx219_0); (try rw [show 2 * 4 = 8 from rfl] at hx219_0); (try rw [show ((2 : Int)).toNat = 2 from rfl] at hx219_1); (try rw [show 2 * 4 = 8 from rfl] at hx219_1); (try rw [show ((2 : Int)).toNat = 2 from rfl] at hx219_2); (try rw [show 2 * 4 = 8 from rfl] at hx219_2); (try rw [show ((2 : Int)).toNat = 2 from rfl] at hx219_3); (try rw [show 2 * 4 = 8 from rfl] at hx219_3); replace p219 := eq_true p219; replace q219 := eq_true q219; have p220 : 0 ≤ (2 : Int) := (by omega); have q220 : 2 < (t212.length : Int) := of_decide_eq_true (by first | (with_reducible assumption)); obtain ⟨ad220, e220, hx220_0, hx220_1, hx220_2, hx220_3⟩ := at_T111 (Kd.R_reads' HO214.out).2.2 2 p220 q220; obtain rfl : ad219 = ad220 := (by injection e220); (try simp only [show (2 : Int).toNat = 2 from rfl, Nat.reduceMul, Nat.reduceEqDiff, Go.Addr.add, ↓reduceIte] at hx220_0); (try simp only [show (2 : Int).toNat = 2 from rfl, Nat.reduceMul, Nat.reduceEqDiff, Go.Addr.add, ↓reduceIte] at hx220_1); (try simp only [show (2 : Int).toNat = 2 from rfl, Nat.reduceMul, Nat.reduceEqDiff, Go.Addr.add, ↓reduceIte] at hx220_2); (try simp only [show (2 : Int).toNat = 2 from rfl, Nat.reduceMul, Nat.reduceEqDiff, Go.Addr.add, ↓reduceIte] at hx220_3); have qi220 : (2 < t212.length) = True := eq_true (by omega); (try rw [show ((2 : Int)).toNat = 2 from rfl] at hx220_0); (try rw [show 2 * 4 = 8 from rfl] at hx220_0); (try rw [show ((2 : Int)).toNat = 2 from rfl] at hx220_1); (try rw [show 2 * 4 = 8 from rfl] at hx220_1); (try rw [show ((2 : Int)).toNat = 2 from rfl] at hx220_2); (try rw [show 2 * 4 = 8 from rfl] at hx220_2); (try rw [show ((2 : Int)).toNat = 2 from rfl] at hx220_3); (try rw [show 2 * 4 = 8 from rfl] at hx220_3); replace p220 := eq_true p220; replace q220 := eq_true q220; have p221 : 0 ≤ (3 : Int) := (by omega); have q221 : 3 < (t212.length : Int) := of_decide_eq_true (by first | (with_reducible assumption)); obtain ⟨ad221, e221, hx221_0, hx221_1, hx221_2, hx221_3⟩ := at_T111 (Kd.R_reads' HO214.out).2.2 3 p221 q221; obtain rfl : ad219 = ad221 := (by injection e221); (try simp only [show (3 : Int).toNat = 3 from rfl, Nat.reduceMul, Nat.reduceEqDiff, Go.Addr.add, ↓reduceIte] at hx221_0); (try simp only [show (3 : Int).toNat = 3 from rfl, Nat.reduceMul, Nat.reduceEqDiff, Go.Addr.add, ↓reduceIte] at hx221_1); (try simp only [show (3 : Int).toNat = 3 from rfl, Nat.reduceMul, Nat.reduceEqDiff, Go.Addr.add, ↓reduceIte] at hx221_2); (try simp only [show (3 : Int).toNat = 3 from rfl, Nat.reduceMul, Nat.reduceEqDiff, Go.Addr.add, ↓reduceIte] at hx221_3); have qi221 : (3 < t212.length) = True := eq_true (by omega); (try rw [show ((3 : Int)).toNat = 3 from rfl] at hx221_0); (try rw [show 3 * 4 = 12 from rfl] at hx221_0); (try rw [show ((3 : Int)).toNat = 3 from rfl] at hx221_1); (try rw [show 3 * 4 = 12 from rfl] at hx221_1); (try rw [show ((3 : Int)).toNat = 3 from rfl] at hx221_2); (try rw [show 3 * 4 = 12 from rfl] at hx221_2); (try rw [show ((3 : Int)).toNat = 3 from rfl] at hx221_3); (try rw [show 3 * 4 = 12 from rfl] at hx221_3); replace p221 := eq_true p221; replace q221 := eq_true q221))
           go_ret
           exact ⟨by first | rfl, by exact HB.out⟩
          ·rw [if_neg c23] at H
           exact absurd H (by simp)
         ·rw [if_neg c22] at H
          have c22b0 : (((rd_T111 t212 2).f1.f1) == 192) = false := beq_eq_false_iff_ne.mpr c22
          have c22b1 : (((rd_T111 t212 2).f1.f1) != 192) = true := bne_iff_ne.mpr c22
          exact absurd ((Option.some.inj H).trans hrt) (by decide)
        ·rw [if_neg c21] at H
         have c21b0 : (((rd_T111 t212 2).f0) == 6) = false := beq_eq_false_iff_ne.mpr c21
         have c21b1 : (((rd_T111 t212 2).f0) != 6) = true := bne_iff_ne.mpr c21
         exact absurd ((Option.some.inj H).trans hrt) (by decide)
       ·rw [if_neg c20] at H
        exact absurd H (by simp)
      ·rw [if_neg c19] at H
       have c19b0 : ((t212.length : Int) == 4) = false := beq_eq_false_iff_ne.mpr c19
       have c19b1 : ((t212.length : Int) != 4) = true := bne_iff_ne.mpr c19
       exact absurd ((Option.some.inj H).trans hrt) (by decide)
    ·replace c9 := Bool.eq_false_iff.mpr c9
     subst c9
     have H1 : (some false) = some r := by rw [if_neg (show ¬ (false = true) by decide)] at H; exact H
     clear H
     have H := H1
     clear H1
     exact absurd ((Option.some.inj H).trans hrt) (by decide)
   ·replace c7 := Bool.eq_false_iff.mpr c7
    subst c7
    have H1 : (some false) = some r := by rw [if_neg (show ¬ (false = true) by decide)] at H; exact H
    clear H
    have H := H1
    clear H1
    exact absurd ((Option.some.inj H).trans hrt) (by decide)
  ·rw [if_neg c5] at H
   have c5b0 : (t215.toList == ([97, 32, 123, 32, 99, 111, 108, 111, 114, 58, 32, 35, 102, 102, 48, 48, 48, 48, 59, 32, 111, 114, 100, 101, 114, 58, 32, 49, 32, 33, 105, 109, 112, 111, 114, 116, 97, 110, 116, 59, 32, 125, 10] : List UInt8)) = false := beq_eq_false_iff_ne.mpr c5
   have c5b1 : (t215.toList != ([97, 32, 123, 32, 99, 111, 108, 111, 114, 58, 32, 35, 102, 102, 48, 48, 48, 48, 59, 32, 111, 114, 100, 101, 114, 58, 32, 49, 32, 33, 105, 109, 112, 111, 114, 116, 97, 110, 116, 59, 32, 125, 10] : List UInt8)) = true := bne_iff_ne.mpr c5
   exact absurd ((Option.some.inj H).trans hrt) (by decide)
 ·rw [if_neg c3] at H
  have c3b0 : (t209 == 0) = false := beq_eq_false_iff_ne.mpr c3
  have c3b1 : (t209 != 0) = true := bne_iff_ne.mpr c3
  exact absurd ((Option.some.inj H).trans hrt) (by decide)

/-! ### scrimref10_SameDecls: function 30 -/
end Go.Proofs.YtolfpgccebdlpaaGreatDoor.HT
namespace Go.Proofs.YtolfpgccebdlpaaGreatDoor.HT
open Go.RowKit Go.Proofs.YtolfpgccebdlpaaGreatDoorW.PrintWords Go.Proofs.YtolfpgccebdlpaaGreatDoorW.PrintLast Go.Proofs.YtolfpgccebdlpaaGreatDoorW.PrintMore
attribute [local go_sem] max2_int min2_int max_two min_two max_three min_three max_four min_four   -- for this text's walks alone
set_option linter.unusedVariables false
set_option linter.unusedSimpArgs false

/-! ### scrimlaw10_decls: function 31 -/
def scrimlaw10_decls.l0 : Nat → List (S123) → List (S111) → Int → Int → Option ((List (S123)))
 | 0, _, _, _, _ => none
 | k + 1, x3, x7, x8, x9 => if x9 < x8 then (if 0 ≤ x9 then (if x9 < (x7.length : Int) then (if x3.length < 4398046511104 then (scrimlaw10_decls.l0 k (x3 ++ [(⟨(rd_T111 x7 x9).f0, (⟨(rd_T111 x7 x9).f1.f0, (rd_T111 x7 x9).f1.f1⟩ : S109), (rd_T111 x7 x9).f2⟩ : S123)]) x7 x8 (wrap64 (x9 + 1))) else (none)) else (none)) else (none)) else (some x3)
def scrimlaw10_decls.f (k : Nat) (l0 : List (S111)) : Option ((List (S123))) := scrimlaw10_decls.l0 k (([] : List (S123))) l0 (l0.length : Int) 0
set_option maxHeartbeats 8000000 in
set_option maxRecDepth 100000 in
theorem scrimlaw10_decls.calls (k : Nat) (A0 : Option Addr) (c0 : Nat) (l0 : List (S111)) (r : List (S123)) (w : World) (hr0 : Kd.C k111 w A0 l0.length l0) (hc0 : l0.length ≤ c0) (h : scrimlaw10_decls.f k l0 = some r) :
  Calls Tryz.prog 31 #[.slice A0 l0.length c0] w fun e w' => ∃ v0_ : Value, e = .returned (v0_) ∧ Kd.R k123 123 w' w.heap.size (fun _ => True) v0_ r ∧ Below w.heap.size w w' := by
 have hu111 := Tryz.underlying111
 have HR0 := Aside0.mk hr0
 have HC0 := Aside0.mk hc0
 clear hr0 hc0
 have HB := Aside0.mk (Below.refl w.heap.size w)
 have H : (scrimlaw10_decls.l0 k (([] : List (S123))) l0 (l0.length : Int) 0) = some r := h
 clear h
 obtain ⟨y224, hy224⟩ : ∃ y_ : List (S123), y_ = (([] : List (S123))) := ⟨_, rfl⟩
 replace H : (scrimlaw10_decls.l0 k y224 l0 (l0.length : Int) 0) = some r := by first | (rw [hy224]; with_reducible exact H)
 have Ny224 := Aside0.mk hy224
 clear hy224
 have H' := Aside0.mk H
 clear H
 go_enter Tryz.func31, Tryz.ntmps31
 go_wp2_with (first | ((with_reducible refine gate_dst (N := 6) rfl ?_); refine Kd.R_lit k123 _ 123 ?hg (N := 6) ?hd (xs := ([] : List (S123))) (inner := []) (ok := fun _ => True) (okp := fun _ => True) ?hr ?hp (fun _ hk => hk) trivial (Below.refl _ _) (Nat.le_refl _) (by simp) ?_; (case hd => rfl); (case hg => rfl); (case hr => first | (go_simp; done)); (case hp => exact (Reps.none _ _)); intro v225 w2 ho3 hb hg_ hnew_; clear hg_ hnew_; (first | rw [← Ny224.out] at ho3); have n0_ := Aside0.mk (Kd.R_lower ho3 (below_size HB.out)); have n1_ := Aside0.mk (below_step HB.out hb); clear HB; have HO226 := n0_; have HB := n1_; clear n0_ n1_; clear hb ho3))
 go_loopg [3, 9] k (fun kq v3 v9 w' => ∃ (x3_1 : List (S123)) (x9_1 : Int), v9 = .int .i64 x9_1 ∧ Aside0 (scrimlaw10_decls.l0 kq x3_1 l0 (l0.length : Int) x9_1 = some r) ∧ Aside0 (kq ≤ k) ∧ Aside0 (Kd.R k123 123 w' w.heap.size (fun _ => True) v3 x3_1) ∧ Aside0 (Below w.heap.size w w'))
 case atStart => exact ⟨(y224), (0), (by first | rfl), H', ⟨Nat.le_refl _⟩, ⟨by exact HO226.out⟩, ⟨by exact HB.out⟩⟩
 case round =>
  clear H'
  try clear p2
  try clear c3
  obtain ⟨x3_1, x9_1, rfl, HA, HK1, HO_3, HB⟩ := hrel
  cases gk with
  | zero => exact absurd HA.out (by simp [scrimlaw10_decls.l0])
  | succ k1 =>
   have H := HA.out
   clear HA
   simp only [scrimlaw10_decls.l0] at H
   by_cases c4 : x9_1 < (l0.length : Int)
   ·rw [if_pos c4] at H
    have c4b0 : decide (x9_1 < (l0.length : Int)) = true := decide_eq_true c4
    clear c4
    by_cases c5 : 0 ≤ x9_1
    ·rw [if_pos c5] at H
     have c5b0 : decide (0 ≤ x9_1) = true := decide_eq_true c5
     clear c5
     by_cases c6 : x9_1 < (l0.length : Int)
     ·rw [if_pos c6] at H
      have c6b0 : decide (x9_1 < (l0.length : Int)) = true := decide_eq_true c6
      clear c6
      by_cases c7 : x3_1.length < 4398046511104
      ·rw [if_pos c7] at H
       have LMc7 := Aside0.mk c7
       clear c7
       obtain ⟨y229, hy229⟩ : ∃ y_ : List (S123), y_ = (x3_1 ++ [(⟨(rd_T111 l0 x9_1).f0, (⟨(rd_T111 l0 x9_1).f1.f0, (rd_T111 l0 x9_1).f1.f1⟩ : S109), (rd_T111 l0 x9_1).f2⟩ : S123)]) := ⟨_, rfl⟩
       replace H : (scrimlaw10_decls.l0 k1 y229 l0 (l0.length : Int) (wrap64 (x9_1 + 1))) = some r := by first | (rw [hy229]; with_reducible exact H)
       have Ny229 := Aside0.mk hy229
       clear hy229
       have H' := Aside0.mk H
       clear H
       have p227 : 0 ≤ (x9_1 : Int) := of_decide_eq_true (by first | (with_reducible assumption))
       have q227 : x9_1 < (l0.length : Int) := of_decide_eq_true (by first | (with_reducible assumption))
       obtain ⟨ad227, e227, hx227_0, hx227_1, hx227_2, hx227_3⟩ := at_T111 HR0.out x9_1 p227 q227
       cases e227
       replace hx227_0 := (HB.out.cell (World.block_lt_of_cell? w _ hx227_0)).trans hx227_0
       replace hx227_1 := (HB.out.cell (World.block_lt_of_cell? w _ hx227_1)).trans hx227_1
       replace hx227_2 := (HB.out.cell (World.block_lt_of_cell? w _ hx227_2)).trans hx227_2
       replace hx227_3 := (HB.out.cell (World.block_lt_of_cell? w _ hx227_3)).trans hx227_3
       replace p227 := eq_true p227
       replace q227 := eq_true q227
       go_wp2_with (first | ((with_reducible refine gate_dst (N := 5) rfl ?_); refine box_event ?hg (N := 5) ?hd (cs := #[.int .i64 0, .int .i64 0, .int .i64 0, .bool false]) (t := 111) ?hr ?_; (case hd => rfl); (case hg => rfl); (case hr => first | (go_simp; done)); intro gb228 hg w8 hbox hb; have n0_ := Aside0.mk (Kd.R_below HO_3.out hb); have n1_ := Aside0.mk (below_step HB.out hb); have n2_ := Aside0.mk (hbox); have n3_ := Aside0.mk ((by rw [hg]; exact (below_size HB.out) : w.heap.size ≤ gb228)); have n4_ := Aside0.mk ((by rw [hg]; exact (below_size HB.out) : w.heap.size ≤ gb228)); clear HO_3; clear HB; have HO_3 := n0_; have HB := n1_; have BK228 := n2_; have GW228 := n3_; have GE228 := n4_; clear n0_ n1_ n2_ n3_ n4_; clear hb hbox hg; have hcz9_0 : w8.cell? ⟨gb228, 0, none⟩ = some (.int .i64 0) := (blk_cell BK228.out 0).trans rfl; have hcz9_1 : w8.cell? ⟨gb228, 1, none⟩ = some (.int .i64 0) := (blk_cell BK228.out 1).trans rfl; have hcz9_2 : w8.cell? ⟨gb228, 2, none⟩ = some (.int .i64 0) := (blk_cell BK228.out 2).trans rfl; have hcz9_3 : w8.cell? ⟨gb228, 3, none⟩ = some (.bool false) := (blk_cell BK228.out 3).trans rfl; have hfz9_0 := blk_frozen BK228.out 0; have hfz9_1 := blk_frozen BK228.out 1; have hfz9_2 := blk_frozen BK228.out 2; have hfz9_3 := blk_frozen BK228.out 3) | ((with_reducible refine gate_builtin (b := .append) (xs := #[.tmp 13, .tmp 15]) rfl ?_); at_builtin; refine Kd.R_append k123 (w0 := w) w.heap.size rfl (.tmp 13) (.tmp 15) 61 123 (.agg #[(.int .i64 0), (.int .i64 0), (.int .i64 0), (.bool false)]) 32 rfl Tryz.underlying61 info123 rfl (by decide) (by omega) u3 x3_1 (⟨(rd_T111 l0 x9_1).f0, (⟨(rd_T111 l0 x9_1).f1.f0, (rd_T111 l0 x9_1).f1.f1⟩ : S109), (rd_T111 l0 x9_1).f2⟩ : S123) [.int .i64 ((rd_T111 l0 x9_1).f0), .int .i64 ((rd_T111 l0 x9_1).f1.f0), .int .i64 ((rd_T111 l0 x9_1).f1.f1), .bool ((rd_T111 l0 x9_1).f2)] (fun _ => True) (fun _ => False) rfl (by first | (go_simp; done)) ?aP (fun _ hk => hk.elim) ?aF ?aO ?aB ?aS ?aL ?_; (case aP => exact k123_mkM _ _ _ (⟨(rd_T111 l0 x9_1).f0, (⟨(rd_T111 l0 x9_1).f1.f0, (rd_T111 l0 x9_1).f1.f1⟩ : S109), (rd_T111 l0 x9_1).f2⟩ : S123)); (case aB => exact (by repeat (with_reducible first | exact HB.out | refine below_set ?_ GE228.out))); (case aF => exact (fun _ _ => trivial)); (case aO => exact (by exact Kd.R_mono (Kd.R_far (p := ⟨gb228, 3, none⟩) (Kd.R_far (p := ⟨gb228, 2, none⟩) (Kd.R_far (p := ⟨gb228, 1, none⟩) (Kd.R_far (p := ⟨gb228, 0, none⟩) (Kd.R_types HO_3.out BK228.out (by decide)) (fun _ hk => hk.2) (.int .i64 ((rd_T111 l0 x9_1).f0))) (fun _ hk => hk.2) (.int .i64 ((rd_T111 l0 x9_1).f1.f0))) (fun _ hk => hk.2) (.int .i64 ((rd_T111 l0 x9_1).f1.f1))) (fun _ hk => hk.2) (.bool ((rd_T111 l0 x9_1).f2))) (fun _ hk => trivial))); (case aS => exact (below_size (by repeat (with_reducible first | exact HB.out | refine below_set ?_ GE228.out)))); (case aL => have := LMc7.out; omega); intro v230 w10 ho hb hg hat; rw [← Ny229.out] at ho; have n0_ := Aside0.mk (blk_grown (g := gb228) (o := .cells #[.int .i64 ((rd_T111 l0 x9_1).f0), .int .i64 ((rd_T111 l0 x9_1).f1.f0), .int .i64 ((rd_T111 l0 x9_1).f1.f1), .bool ((rd_T111 l0 x9_1).f2)] 111 (0, 0)) (by refine blk_put (cs := #[.int .i64 ((rd_T111 l0 x9_1).f0), .int .i64 ((rd_T111 l0 x9_1).f1.f0), .int .i64 ((rd_T111 l0 x9_1).f1.f1), .bool false]) ?_ 3 _ rfl; refine blk_put (cs := #[.int .i64 ((rd_T111 l0 x9_1).f0), .int .i64 ((rd_T111 l0 x9_1).f1.f0), .int .i64 0, .bool false]) ?_ 2 _ rfl; refine blk_put (cs := #[.int .i64 ((rd_T111 l0 x9_1).f0), .int .i64 0, .int .i64 0, .bool false]) ?_ 1 _ rfl; refine blk_put (cs := #[.int .i64 0, .int .i64 0, .int .i64 0, .bool false]) ?_ 0 _ rfl; exact BK228.out) hg (Kd.R_ne HO_3.out BK228.out (by decide))); have n1_ := Aside0.mk (hb); have n2_ := Aside0.mk (ho); clear BK228; clear HB; clear HO_3; have BK228 := n0_; have HB := n1_; have HO231 := n2_; clear n0_ n1_ n2_; clear ho hb hg hat))
       go_roundg k1
       case measure => have := HK1.out; omega
       case rel => exact ⟨(y229), (wrap64 (x9_1 + 1)), (by first | rfl), H', ⟨by have := HK1.out; omega⟩, ⟨by exact HO231.out⟩, ⟨by exact HB.out⟩⟩
      ·rw [if_neg c7] at H
       exact absurd H (by simp)
     ·rw [if_neg c6] at H
      exact absurd H (by simp)
    ·rw [if_neg c5] at H
     exact absurd H (by simp)
   ·rw [if_neg c4] at H
    have c4b0 : decide (x9_1 < (l0.length : Int)) = false := decide_eq_false c4
    clear c4
    obtain rfl := Option.some.inj H
    go_wp2
    go_ret
    exact ⟨_, by first | rfl, by exact HO_3.out, by exact HB.out⟩

end Go.Proofs.YtolfpgccebdlpaaGreatDoor.HT
set_option linter.unusedVariables false
set_option linter.unusedSimpArgs false
namespace Go.Proofs.YtolfpgccebdlpaaGreatDoor.Shn
open Go.RowKit Go.Lib Go.Proofs.YtolfpgccebdlpaaGreatDoor.HT Go.Proofs.YtolfpgccebdlpaaGreatDoorW.PrintWords Go.Proofs.YtolfpgccebdlpaaGreatDoorW.PrintLast Go.Proofs.YtolfpgccebdlpaaGreatDoorW.PrintMore Go.Proofs.Sht Go.Proofs.Tok
def toD (x : Dc) : S111 := ⟨x.1, ⟨x.2.1, x.2.2.1⟩, x.2.2.2⟩
def toR (x : Dc) : S123 := ⟨x.1, ⟨x.2.1, x.2.2.1⟩, x.2.2.2⟩
def ofR (x : S123) : Dc := (x.f0, x.f1.f0, x.f1.f1, x.f2)
theorem rd_toD {l : List Dc} {i : Nat} (h : i < l.length) : rd_T111 (l.map toD) (i : Int) = toD l[i] := by
  unfold rd_T111
  rw [Int.toNat_natCast, List.getD, List.getElem?_eq_getElem (by rw [List.length_map]; exact h), List.getElem_map]
  rfl
theorem w64b (i : Nat) (h : i ≤ 4398046511000) : wrap64 ((i : Int) + 1) = ((i + 1 : Nat) : Int) := by unfold wrap64; omega
theorem conv_l (P : List Dc) (hP : P.length ≤ 4398046511000) : ∀ (d n : Nat) (acc : List (S123)), n + d = P.length → acc.length ≤ n → Ev (fun k => scrimlaw10_decls.l0 k acc (P.map toD) ((P.map toD).length : Int) (n : Int)) (acc ++ (P.drop n).map toR)
  | 0, n, acc, h, ha => by
    obtain rfl : n = P.length := by omega
    rw [List.drop_length, List.map_nil, List.append_nil]
    exact Ev.step (f := fun k => some acc) (fun k => by rw [scrimlaw10_decls.l0, if_neg (by rw [List.length_map]; omega)]) (Ev.now _)
  | d + 1, n, acc, h, ha => by
    have hn : n < P.length := by omega
    have hl : (P.map toD).length = P.length := List.length_map _
    rw [List.drop_eq_getElem_cons hn, List.map_cons]
    have ih := conv_l P hP d (n + 1) (acc ++ [toR P[n]]) (by omega) (by rw [List.length_append]; simp; omega)
    rw [List.append_assoc] at ih
    refine Ev.step (f := fun k => scrimlaw10_decls.l0 k (acc ++ [toR P[n]]) (P.map toD) ((P.map toD).length : Int) ((n + 1 : Nat) : Int)) (fun k => ?_) ih
    rw [scrimlaw10_decls.l0, if_pos (by rw [hl]; omega), if_pos (by omega), if_pos (by rw [hl]; omega), rd_toD hn, if_pos (by omega), w64b n (by omega)]
    rfl
theorem conv_all (P : List Dc) (hP : P.length ≤ 4398046511000) : ∃ k, scrimlaw10_decls.f k (P.map toD) = some (P.map toR) := by
  obtain ⟨k, h⟩ := conv_l P hP P.length 0 [] (Nat.zero_add _) (by simp)
  exact ⟨k, by unfold scrimlaw10_decls.f; simpa using h k (Nat.le_refl _)⟩
/-- the law's own declarations: a row of the call's own that reads the same -/
theorem declsC (ds : List Dc) (hl : ds.length ≤ 4398046511000) (A : Option Addr) (c : Nat) (hc : ds.length ≤ c) (w : World) (C : Kd.C kDc w A ds.length ds) :
    Calls Tryz.prog 31 #[.slice A ds.length c] w fun e w' => ∃ v, e = .returned v ∧ Kd.R kDc 123 w' w.heap.size (fun _ => True) v ds ∧ Below w.heap.size w w' := by
  obtain ⟨k, hk⟩ := conv_all ds hl
  have hC : Kd.C k111 w A (ds.map toD).length (ds.map toD) := by
    rw [List.length_map]
    refine C_to (d := kDc) (d' := k111) rfl (fun W x cs hK => ?_) C
    obtain ⟨_, _, rfl, rfl, ⟨_, _, rfl, rfl, ⟨_, _, rfl, rfl, rfl⟩⟩⟩ := hK
    exact ⟨[.int .i64 x.1], [.int .i64 x.2.1, .int .i64 x.2.2.1, .bool x.2.2.2], rfl, rfl, ⟨[.int .i64 x.2.1, .int .i64 x.2.2.1], [.bool x.2.2.2], rfl, ⟨[.int .i64 x.2.1], [.int .i64 x.2.2.1], rfl, rfl, rfl⟩, rfl⟩⟩
  have q := scrimlaw10_decls.calls k A c (ds.map toD) (ds.map toR) w hC (by rw [List.length_map]; exact hc) hk
  rw [List.length_map] at q
  refine q.mono fun e w' hq => ?_
  obtain ⟨v, he, hR, hB⟩ := hq
  refine ⟨v, he, ?_, hB⟩
  have h2 := R_to (d := k123) (d' := kDc) (f := ofR) rfl (fun W ok x cs hM => by
    obtain ⟨_, _, rfl, rfl, ⟨_, _, rfl, ⟨_, _, rfl, rfl, rfl⟩, rfl⟩⟩ := hM
    exact ⟨[.int .i64 x.f0], [.int .i64 x.f1.f0, .int .i64 x.f1.f1, .bool x.f2], rfl, rfl, ⟨[.int .i64 x.f1.f0], [.int .i64 x.f1.f1, .bool x.f2], rfl, rfl, ⟨[.int .i64 x.f1.f1], [.bool x.f2], rfl, rfl, rfl⟩⟩⟩) hR
  rw [List.map_map] at h2
  have e : ofR ∘ toR = id := rfl
  rw [e, List.map_id] at h2
  exact h2
/-! ### own -/
theorem FK_two {α β : Type} {a : Kd α} {b : Kd β} {e1 e2 base : Nat} {W : World} {ok : Nat → Prop} {v1 v2 : Value} {x : List α × List β} (h1 : Kd.V a e1 W base ok v1 x.1) (h2 : Kd.V b e2 W base ok v2 x.2) : Kd.FK (Kd.pair (Kd.slice e1 a) (Kd.slice e2 b)) W ok x [v1, v2] := by
  obtain ⟨A1, c1, rfl, l1, f1⟩ := h1
  obtain ⟨A2, c2, rfl, l2, f2⟩ := h2
  intro W' hW
  exact ⟨[_], [_], rfl, ⟨A1, c1, rfl, l1, f1 W' hW⟩, ⟨A2, c2, rfl, l2, f2 W' hW⟩⟩
theorem heap_Smp : Kd.Heap kSmp := Kd.heap_pair Kd.heap_string (Kd.heap_pair (Kd.heap_slice _ Kd.heap_string) (Kd.heap_pair (Kd.heap_slice _ Kd.heap_string) (Kd.heap_pair Kd.heap_bool Kd.heap_bool)))
theorem heap_lt2 {W W1 : World} {k : Nat} (h : W1.heap[k]? = W.heap[k]?) (hlt : k < W.heap.size) : k < W1.heap.size := by
  rw [Array.getElem?_eq_getElem hlt] at h
  exact (Array.getElem?_eq_some_iff.1 h).1
theorem at_SmpF {w : World} {ok : Nat → Prop} {A : Option Addr} {n : Nat} {xs : List Smp} (h : Kd.F kSmp w ok A n xs) (k : Nat) (hk : k < n) (hx : k < xs.length) : ∃ ad A1 c1 A2 c2, A = some ad ∧ w.cell? (ad.add (k * 5)) = some (.string xs[k].1) ∧ w.cell? ⟨(ad.add (k * 5)).block, (ad.add (k * 5)).off + 1, none⟩ = some (.slice A1 xs[k].2.1.length c1) ∧ w.cell? ⟨(ad.add (k * 5)).block, (ad.add (k * 5)).off + 2, none⟩ = some (.slice A2 xs[k].2.2.1.length c2) ∧ w.cell? ⟨(ad.add (k * 5)).block, (ad.add (k * 5)).off + 3, none⟩ = some (.bool xs[k].2.2.2.1) ∧ w.cell? ⟨(ad.add (k * 5)).block, (ad.add (k * 5)).off + 4, none⟩ = some (.bool xs[k].2.2.2.2) ∧ Kd.FK kSmp w ok xs[k] [.string xs[k].1, .slice A1 xs[k].2.1.length c1, .slice A2 xs[k].2.2.1.length c2, .bool xs[k].2.2.2.1, .bool xs[k].2.2.2.2] := by
  obtain ⟨ad, c, e, _, hF, hc0, _⟩ := Kd.F_get h zSmp (k : Int) (by omega) (by omega)
  have hg : xs.getD (k : Int).toNat zSmp = xs[k] := by rw [Int.toNat_natCast, List.getD, List.getElem?_eq_getElem hx]; rfl
  rw [hg] at hF
  have hc : ∀ j u, c[j]? = some u → w.cell? (ad.add (k * 5 + j)) = some u := hc0
  obtain ⟨A1, c1, A2, c2, rfl, l1, g1, l2, g2⟩ := kSmp_open (Kd.FK_now hF)
  exact ⟨ad, A1, c1, A2, c2, e, hc 0 _ rfl, by rw [← add_field _ _ 1 (by omega)]; exact hc 1 _ rfl, by rw [← add_field _ _ 2 (by omega)]; exact hc 2 _ rfl, by rw [← add_field _ _ 3 (by omega)]; exact hc 3 _ rfl, by rw [← add_field _ _ 4 (by omega)]; exact hc 4 _ rfl, hF⟩
theorem V_of_R {e base base' : Nat} {ok : Nat → Prop} {W W1 : World} {v : Value} {ds : List Dc} (h : Kd.R kDc e W base ok v ds) (hm : ∀ b, v.ownBlock = some b → W1.heap[b]? = W.heap[b]?) : Kd.V kDc e W1 base' (fun k => v.ownBlock = some k) v ds := by
  obtain ⟨h0, inner, ho, hr⟩ := h
  have hr2 : Reps (kDc.M W base (fun k => v.ownBlock = some k ∧ some k ≠ v.ownBlock)) kDc.sz ds inner := hr
  have h2 : Kd.R kDc e W base (fun k => v.ownBlock = some k) v ds := ⟨fun k hk => hk, inner, ho, hr2⟩
  obtain ⟨A, c, he, hl, _⟩ := Kd.R_reads h2
  have hlt := Kd.R_lt h2
  subst he
  refine ⟨A, c, rfl, hl, fun W' hW => ?_⟩
  obtain ⟨A', c', he', _, hC⟩ := Kd.R_reads (Kd.R_move h2 (w1 := W') (fun k hk => (hW k hk (by have e1 := hm k hk; have := hlt k hk; exact heap_lt2 e1 this)).trans (hm k hk)))
  injection he' with e1
  rw [e1]
  exact hC
theorem own_typed_R {e base : Nat} {ok : Nat → Prop} {W : World} {v : Value} {ds : List Dc} (h : Kd.R kDc e W base ok v ds) (k : Nat) (hk : v.ownBlock = some k) : ∃ cells, W.heap[k]? = some (.cells cells e (0, 0)) := by
  obtain ⟨h0, inner, ho, hr⟩ := h
  exact own_typed ho k hk
theorem infoS : (Tryz.prog.info? 79).map (fun i => (i.zero, i.size, i.bytes)) = some (some (.agg #[.string ⟨#[]⟩, .slice none 0 0, .slice none 0 0, .bool false, .bool false]), 5, 72) := by kernel_rfl
theorem infoE : (Tryz.prog.info? 30).map (fun i => (i.zero, i.size, i.bytes)) = some (some (.agg #[.slice none 0 0, .slice none 0 0]), 2, 48) := by kernel_rfl
theorem infoU : (Tryz.prog.info? 113).map (fun i => (i.zero, i.size, i.bytes)) = some (some (.agg #[.slice none 0 0, .slice none 0 0]), 2, 48) := by kernel_rfl
set_option maxHeartbeats 20000000 in
set_option maxRecDepth 400000 in
theorem ownC (xs : List Rl) (A : Option Addr) (c : Nat) (w : World) (C : Kd.C kRl w A xs.length xs) (hc : xs.length ≤ c) (hl : xs.length ≤ 2932031007317) (hs : ∀ r ∈ xs, r.1.length ≤ 2932031007317 ∧ r.2.length ≤ 4398046511000 ∧ ∀ s ∈ r.1, s.1.length ≤ 1954687338211) :
    Calls Tryz.prog 26 #[.slice A xs.length c] w fun e w' => ∃ v, e = .returned v ∧ Kd.V kRl 113 w' w.heap.size (fun _ => True) v (xs.take 201) ∧ Below w.heap.size w w' := by
  have D0 := Aside0.mk C
  have HS := Aside0.mk hs
  clear C hs
  have hu1 := Tryz.underlying115
  have hu2 := Tryz.underlying25
  have hu3 := Tryz.underlying80
  have hu4 := Tryz.underlying113
  have hu5 := Tryz.underlying30
  have hu6 := Tryz.underlying79
  go_enter Tryz.func26, Tryz.ntmps26
  go_wp2
  go_loopw [3, 4, 5, 6, 8, 9, 11, 14, 15, 16, 17, 18, 19, 20, 21, 22, 23, 24, 25, 26, 27, 28, 29, 30, 31, 32, 33, 34, 35, 36, 37, 38, 39, 40, 41, 42, 43, 44, 45, 46, 47, 48, 49, 50, 51, 52, 53, 54, 55, 56, 57, 58, 59, 60, 61] (fun v3 _ _ _ _ _ _ i _ _ _ _ _ _ _ _ _ _ _ _ _ _ _ _ _ _ _ _ _ _ _ _ _ _ _ _ _ _ _ _ _ _ _ _ _ _ _ _ _ _ _ _ _ _ _ wr => ∃ k : Nat, k ≤ xs.length ∧ i = .int .i64 k ∧ Aside0 (k ≤ 201) ∧ Aside0 (Kd.N kRl 113 wr w.heap.size (fun _ => True) v3 (xs.take k)) ∧ Aside0 (Below w.heap.size w wr)) (fun _ _ _ _ _ _ _ i _ _ _ _ _ _ _ _ _ _ _ _ _ _ _ _ _ _ _ _ _ _ _ _ _ _ _ _ _ _ _ _ _ _ _ _ _ _ _ _ _ _ _ _ _ _ _ _ => xs.length - (RowKit.intOf i).toNat)
  case atStart => exact ⟨0, Nat.zero_le _, rfl, ⟨by omega⟩, ⟨Kd.N_nil _ _ _ _ _⟩, ⟨Below.refl _ _⟩⟩
  case round =>
    obtain ⟨k, hk, rfl, K201, NO, BR⟩ := hrel
    obtain ⟨wo, rfl⟩ : ∃ x, x = wr := ⟨_, rfl⟩
    by_cases hlt : k < xs.length
    · have g1 : decide ((k : Int) < (xs.length : Int)) = true := decide_eq_true (by omega)
      obtain ⟨ad, A1, c1, A2, c2, ea, h0, h1, q1, C1, q2, C2⟩ := at_two D0.out k hlt hlt
      subst ea
      have hB := fun (p : Addr) (v : Value) (h : w.cell? p = some v) => (BR.out.cell (World.block_lt_of_cell? _ _ h)).trans h
      have x0 := hB _ _ h0
      have x1 := hB _ _ h1
      clear hB h0 h1
      by_cases h200 : 200 < k
      · have e0 : decide ((200 : Int) < (k : Int)) = true := decide_eq_true (by omega)
        have HK : Aside0 (xs.take 201 = xs.take k) := ⟨by rw [show k = 201 by have := K201.out; omega]⟩
        as_aux_lemma =>
        go_wp2
        go_ret
        exact ⟨_, rfl, by rw [HK.out]; exact Kd.V_mono (Kd.V_alloc (Kd.N_V NO.out) _) (fun _ _ => trivial), below_alloc BR.out _⟩
      have e0 : decide ((200 : Int) < (k : Int)) = false := decide_eq_false (by omega)
      have NX : Aside0 (xs.take (k + 1) = xs.take k ++ [xs[k]]) := ⟨List.take_succ_eq_append_getElem hlt⟩
      have hz := HS.out _ (List.getElem_mem hlt)
      have EC1 := Aside0.mk C1
      have EC2 := Aside0.mk C2
      clear C1 C2
      generalize xs[k] = r at x0 x1 NX hz EC1 EC2 q1 q2
      obtain ⟨ss, ds⟩ := r
      dsimp only at x0 x1 EC1 EC2 hz q1 q2
      obtain ⟨hz1, hz2, hz3⟩ := hz
      have HZ3 := Aside0.mk hz3
      clear hz3
      have DC := Aside0.mk (fun W (hW : Below w.heap.size w W) => declsC ds hz2 A2 c2 q2 W (Kd.C_below EC2.out hW))
      have Y0 := Aside0.mk (fun (W : World) (hb : Below (wo.alloc (Obj.cells #[.slice A1 ss.length c1, .slice A2 ds.length c2] 115)).heap.size (wo.alloc (Obj.cells #[.slice A1 ss.length c1, .slice A2 ds.length c2] 115)) W) => box_cell hb (j := 0) rfl)
      go_wp2_with (first | (go_at_call 31; refine (DC.out _ (below_alloc BR.out _)).mono ?_; rintro e w2 ⟨vD, rfl, hR, hB⟩; have y0 := Y0.out _ hB; have RD := Aside0.mk hR; have B2 := Aside0.mk (one_below (Below.refl wo.heap.size wo) hB); obtain ⟨AD, cD, rfl, hcD, _⟩ := Kd.R_reads hR; have y0a := (World.cell?_alloc_lt w2 (Obj.cells #[.slice none 0 0, .slice AD ds.length cD] 113) _ (World.block_lt_of_cell? _ _ y0)).trans y0; clear hR hB))
      have HX0 := Aside0.mk (heap_alloc_new w2 (Obj.cells #[.slice none 0 0, .slice AD ds.length cD] 113))
      have BX0 := Aside0.mk (below_alloc B2.out (Obj.cells #[.slice none 0 0, .slice AD ds.length cD] 113))
      have TD0 := Aside0.mk (fun (b : Nat) (hb : (Value.slice AD ds.length cD).ownBlock = some b) => heap_alloc_old w2 (Obj.cells #[.slice none 0 0, .slice AD ds.length cD] 113) (Kd.R_lt RD.out b hb))
      have hw2 : wo.heap.size ≤ w2.heap.size := B2.out.size
      go_loopw [8, 9, 11, 29, 30, 31, 32, 33, 34, 35, 36, 37, 38, 39, 40, 41, 42, 43, 44, 45, 46, 47, 48, 49, 50, 51, 52, 53, 54, 55, 56] (fun _ _ _ i _ _ _ _ _ _ _ _ _ _ _ _ _ _ _ _ _ _ _ _ _ _ _ _ _ _ _ wx => ∃ (j : Nat) (vS : Value), j ≤ ss.length ∧ i = .int .i64 j ∧ Aside0 (wx.heap[w2.heap.size]? = some (.cells #[vS, .slice AD ds.length cD] 113 (0, 0))) ∧ Aside0 (Kd.N kSel 30 wx w.heap.size (fun k => (k < w.heap.size ∨ wo.heap.size ≤ k) ∧ k ≠ w2.heap.size) vS (ss.take j)) ∧ Aside0 (∀ b, (Value.slice AD ds.length cD).ownBlock = some b → wx.heap[b]? = w2.heap[b]?) ∧ Aside0 (Below wo.heap.size wo wx)) (fun _ _ _ i _ _ _ _ _ _ _ _ _ _ _ _ _ _ _ _ _ _ _ _ _ _ _ _ _ _ _ _ => ss.length - (RowKit.intOf i).toNat)
      case atStart => exact ⟨0, _, Nat.zero_le _, rfl, HX0, ⟨Kd.N_nil _ _ _ _ _⟩, TD0, BX0⟩
      case round =>
        clear HX0 BX0 TD0 y0a x0 x1
        obtain ⟨j, vS, hj, rfl, HX, NS, TD, BX⟩ := hrel
        obtain ⟨wx, rfl⟩ : ∃ x, x = wr := ⟨_, rfl⟩
        have BWX := Aside0.mk (below_then BR.out BR.out.size BX.out)
        have hwx : w2.heap.size < wx.heap.size := blk_lt HX.out
        by_cases hjl : j < ss.length
        · have g2 : decide ((j : Int) < (ss.length : Int)) = true := decide_eq_true (by omega)
          obtain ⟨b0, P1, p1, P2, p2, eb, m0, m1, qq1, G1, qq2, G2⟩ := at_two EC1.out j hjl hjl
          subst eb
          have hB := fun (p : Addr) (v : Value) (h : w.cell? p = some v) => (BWX.out.cell (World.block_lt_of_cell? _ _ h)).trans h
          have y0 := hB _ _ m0
          have y1 := hB _ _ m1
          have SNX : Aside0 (ss.take (j + 1) = ss.take j ++ [ss[j]]) := ⟨List.take_succ_eq_append_getElem hjl⟩
          have hz3 := HZ3.out _ (List.getElem_mem hjl)
          have FP := Aside0.mk (Kd.C_F heap_Smp G1)
          have FB := Aside0.mk (Kd.C_F Kd.heap_bool G2)
          clear m0 m1 hB G1 G2
          generalize ss[j] = s at y0 y1 SNX hz3 FP FB qq1 qq2
          obtain ⟨ps, bs⟩ := s
          dsimp only at y0 y1 hz3 FP FB qq1 qq2
          go_wp2
          have sz8 : (wx.alloc (Obj.cells #[.slice P1 ps.length p1, .slice P2 bs.length p2] 25)).heap.size = wx.heap.size + 1 := World.size_alloc _ _
          have HY0 := Aside0.mk (heap_alloc_new (wx.alloc (Obj.cells #[.slice P1 ps.length p1, .slice P2 bs.length p2] 25)) (Obj.cells #[.slice none 0 0, .slice P2 bs.length p2] 30))
          rw [sz8] at HY0
          have BY0 := Aside0.mk (below_alloc (below_alloc (Below.refl wx.heap.size wx) (Obj.cells #[.slice P1 ps.length p1, .slice P2 bs.length p2] 25)) (Obj.cells #[.slice none 0 0, .slice P2 bs.length p2] 30))
          clear sz8 y0 y1
          go_loopw [11, 39, 40, 41, 42, 43, 44, 45, 46, 47, 48, 49] (fun _ i _ _ _ _ _ _ _ _ _ _ wy => ∃ (i' : Nat) (vP : Value), i' ≤ ps.length ∧ i = .int .i64 i' ∧ Aside0 (wy.heap[wx.heap.size + 1]? = some (.cells #[vP, .slice P2 bs.length p2] 30 (0, 0))) ∧ Aside0 (Kd.N kSmp 79 wy w.heap.size (fun k => (k < w.heap.size ∨ wx.heap.size ≤ k) ∧ k ≠ wx.heap.size + 1) vP (ps.take i')) ∧ Aside0 (Below wx.heap.size wx wy)) (fun _ i _ _ _ _ _ _ _ _ _ _ _ => ps.length - (RowKit.intOf i).toNat)
          case atStart => exact ⟨0, _, Nat.zero_le _, rfl, HY0, ⟨Kd.N_nil _ _ _ _ _⟩, BY0⟩
          case round =>
            clear HY0 BY0
            obtain ⟨i', vP, hi, rfl, HY, NP, BY⟩ := hrel
            obtain ⟨wy, rfl⟩ : ∃ x, x = wr := ⟨_, rfl⟩
            have BWY := Aside0.mk (below_then BWX.out BWX.out.size BY.out)
            have hwy : wx.heap.size + 1 < wy.heap.size := blk_lt HY.out
            have hy0 : wy.cell? ⟨wx.heap.size + 1, 0, none⟩ = some vP := (blk_cell HY.out 0).trans rfl
            have NPB := Aside0.mk (Kd.N_base NP.out)
            have NPX := Aside0.mk (fun (b : Nat) (hb : vP.ownBlock = some b) => (by have h1 := NP.out.1 b hb; have h2 := NPB.out b hb; rcases h1.1 with h3 | h3 <;> omega : wx.heap.size ≤ b))
            by_cases hil : i' < ps.length
            · have g3 : decide ((i' : Int) < (ps.length : Int)) = true := decide_eq_true (by omega)
              obtain ⟨b1, U1v, u1v, U2v, u2v, eb1, m0, m1, m2, m3, m4, FE⟩ := at_SmpF FP.out i' hil hil
              subst eb1
              have hB := fun (p : Addr) (v : Value) (h : w.cell? p = some v) => (BWY.out.cell (World.block_lt_of_cell? _ _ h)).trans h
              have y0 := hB _ _ m0
              have y1 := hB _ _ m1
              have y2 := hB _ _ m2
              have y3 := hB _ _ m3
              have y4 := hB _ _ m4
              have PNX : Aside0 (ps.take (i' + 1) = ps.take i' ++ [ps[i']]) := ⟨List.take_succ_eq_append_getElem hil⟩
              have FEE := Aside0.mk FE
              clear m0 m1 m2 m3 m4 hB FE
              generalize ps[i'] = x at y0 y1 y2 y3 y4 PNX FEE
              have hy0a := (World.cell?_alloc_lt wy (Obj.cells #[.string x.1, .slice U1v x.2.1.length u1v, .slice U2v x.2.2.1.length u2v, .bool x.2.2.2.1, .bool x.2.2.2.2] 80) _ (World.block_lt_of_cell? _ _ hy0)).trans hy0
              have NPA := Aside0.mk (Kd.N_alloc NP.out (Obj.cells #[.string x.1, .slice U1v x.2.1.length u1v, .slice U2v x.2.2.1.length u2v, .bool x.2.2.2.1, .bool x.2.2.2.2] 80))
              have BWA := Aside0.mk (below_alloc BWY.out (Obj.cells #[.string x.1, .slice U1v x.2.1.length u1v, .slice U2v x.2.2.1.length u2v, .bool x.2.2.2.1, .bool x.2.2.2.2] 80))
              have BYA := Aside0.mk (below_alloc BY.out (Obj.cells #[.string x.1, .slice U1v x.2.1.length u1v, .slice U2v x.2.2.1.length u2v, .bool x.2.2.2.1, .bool x.2.2.2.2] 80))
              have HYA := Aside0.mk (blk_alloc HY.out (Obj.cells #[.string x.1, .slice U1v x.2.1.length u1v, .slice U2v x.2.2.1.length u2v, .bool x.2.2.2.1, .bool x.2.2.2.2] 80))
              have SZA := Aside0.mk (World.size_alloc wy (Obj.cells #[.string x.1, .slice U1v x.2.1.length u1v, .slice U2v x.2.2.1.length u2v, .bool x.2.2.2.1, .bool x.2.2.2.2] 80))
              have hwW := BWX.out.size
              go_wp2_with (first | ((with_reducible refine gate_builtin (b := .append) (xs := #[.tmp 44, .tmp 46]) rfl ?_); at_builtin; refine Kd.N_append kSmp (w0 := w) w.heap.size rfl (.tmp 44) (.tmp 46) 28 79 (.agg #[.string ⟨#[]⟩, .slice none 0 0, .slice none 0 0, .bool false, .bool false]) 72 rfl Tryz.underlying28 infoS rfl (by decide) (by omega) vP (ps.take i') x [.string x.1, .slice U1v x.2.1.length u1v, .slice U2v x.2.2.1.length u2v, .bool x.2.2.2.1, .bool x.2.2.2.2] (fun k => (k < w.heap.size ∨ wx.heap.size ≤ k) ∧ k ≠ wx.heap.size + 1) (fun k => k < w.heap.size) rfl (by first | (go_simp; done) | (go_simp; rfl)) (Kd.FK_step FEE.out (fun k hk _ => BWA.out.block k hk)) (fun k hk => ⟨⟨.inl hk, by omega⟩, fun e => by have := NPB.out k e.symm; omega⟩) (fun k hk => ⟨.inr (by have := SZA.out; omega), by have := SZA.out; omega⟩) NPA.out BWA.out BWA.out.size (by rw [List.length_take]; omega) ?_; intro v11 w11 ho hb hg hat; obtain ⟨A11, c11, hv0⟩ := Kd.V_slice (Kd.N_V (base' := 0) ho); have hv11 : v11 = .slice A11 (i' + 1) c11 := hv0.trans (by rw [List.length_append, List.length_take, Nat.min_eq_left (Nat.le_of_lt hil)]; rfl); clear hv0; subst hv11; have NN := Aside0.mk ho; have BN := Aside0.mk hb; have HY2 := Aside0.mk (blk_grown HYA.out hg (Kd.N_ne NPA.out HYA.out (by decide))); have BX2 := Aside0.mk (pw_below_grown BYA.out vP.ownBlock BYA.out.size hg (fun k hk => NPX.out k hk)); have kc := (blk_cell HY2.out 0).trans rfl; have kf := blk_frozen HY2.out 0; clear ho hb hg hat))
              exact ⟨⟨i' + 1, _, by omega, by go_num, ⟨blk_put HY2.out 0 _ rfl⟩, ⟨by rw [PNX.out]; exact Kd.N_far (p := ⟨wx.heap.size + 1, 0, none⟩) NN.out (fun k hk => hk.2) _⟩, ⟨BX2.out.setCell (p := ⟨wx.heap.size + 1, 0, none⟩) (by show wx.heap.size ≤ wx.heap.size + 1; omega) _⟩⟩, by simp [RowKit.intOf]; omega⟩
            · obtain rfl : i' = ps.length := by omega
              have g3 : decide ((ps.length : Int) < (ps.length : Int)) = false := decide_eq_false (by omega)
              have NP2 := NP.out
              rw [List.take_length] at NP2
              have NPF := Aside0.mk NP2
              clear NP2 NP
              have hs0 : wy.cell? ⟨w2.heap.size, 0, none⟩ = some vS := (blk_cell (blk_below HX.out BY.out) 0).trans rfl
              have hyc : wy.cell? ⟨wx.heap.size + 1, 1, none⟩ = some (Value.slice P2 bs.length p2) := (blk_cell HY.out 1).trans rfl
              have NSB := Aside0.mk (Kd.N_base NS.out)
              have NSL := Aside0.mk (Kd.N_lt NS.out)
              have NSA := Aside0.mk (Kd.N_below NS.out BY.out)
              have HXA := Aside0.mk (blk_below HX.out BY.out)
              have hwW := BWX.out.size
              have hwo := BR.out.size
              have hxo := BX.out.size
              have FVP := Aside0.mk (Kd.V_mono (ok' := fun k => k < w.heap.size ∨ wx.heap.size ≤ k) (Kd.N_V (base' := w.heap.size) NPF.out) (fun k hk => hk.1))
              have FVB : Aside0 (Kd.V Kd.bool 4 wy w.heap.size (fun k => k < w.heap.size ∨ wx.heap.size ≤ k) (.slice P2 bs.length p2) bs) := ⟨Kd.V_mono (Kd.V_mk qq2 (Kd.F_step FB.out (fun k hk _ => BWY.out.block k hk))) (fun k hk => .inl hk)⟩
              have BXY := Aside0.mk (below_then BX.out BX.out.size BY.out)
              obtain ⟨AP, cP, hvP⟩ := Kd.V_slice FVP.out
              subst hvP
              go_wp2_with (first | ((with_reducible refine gate_builtin (b := .append) (xs := #[.tmp 51, .tmp 53]) rfl ?_); at_builtin; refine Kd.N_append kSel (w0 := w) w.heap.size rfl (.tmp 51) (.tmp 53) 39 30 (.agg #[.slice none 0 0, .slice none 0 0]) 48 rfl Tryz.underlying39 infoE rfl (by decide) (by omega) vS (ss.take j) (ps, bs) [.slice AP ps.length cP, .slice P2 bs.length p2] (fun k => (k < w.heap.size ∨ wo.heap.size ≤ k) ∧ k ≠ w2.heap.size) (fun k => k < w.heap.size ∨ wx.heap.size ≤ k) rfl (by first | (go_simp; done) | (go_simp; rfl)) (FK_two FVP.out FVB.out) (fun k hk => ⟨⟨by rcases hk with hk | hk <;> omega, by rcases hk with hk | hk <;> omega⟩, fun e => by have := NSB.out k e.symm; have := NSL.out k e.symm; rcases hk with hk | hk <;> omega⟩) (fun k hk => ⟨.inr (by omega), by omega⟩) NSA.out BWY.out BWY.out.size (by rw [List.length_take]; omega) ?_; intro v12 w12 ho hb hg hat; obtain ⟨A12, c12, hv0⟩ := Kd.V_slice (Kd.N_V (base' := 0) ho); have hv12 : v12 = .slice A12 (j + 1) c12 := hv0.trans (by rw [List.length_append, List.length_take, Nat.min_eq_left (Nat.le_of_lt hjl)]; rfl); clear hv0; subst hv12; have NN := Aside0.mk ho; have HX2 := Aside0.mk (blk_grown HXA.out hg (Kd.N_ne NSA.out HXA.out (by decide))); have TD2 := Aside0.mk (fun (b : Nat) (hb : (Value.slice AD ds.length cD).ownBlock = some b) => (by
                  obtain ⟨cells, hcl⟩ := own_typed_R RD.out b hb
                  have e1 := (BY.out.block b (by have := heap_lt2 (TD.out b hb) (blk_lt hcl); exact this)).trans ((TD.out b hb).trans hcl)
                  exact ((hg.block b (blk_lt e1) (Kd.N_ne NSA.out e1 (by decide))).trans e1).trans hcl.symm : w12.heap[b]? = w2.heap[b]?)); have BX2 := Aside0.mk (pw_below_grown BXY.out vS.ownBlock BXY.out.size hg (fun k hk => by have h1 := NS.out.1 k hk; have h2 := NSB.out k hk; rcases h1.1 with h3 | h3 <;> omega)); have kc := (blk_cell HX2.out 0).trans rfl; have kf := blk_frozen HX2.out 0; clear ho hb hg hat))
              exact ⟨⟨j + 1, _, by omega, by go_num, ⟨blk_put HX2.out 0 _ rfl⟩, ⟨by rw [SNX.out]; exact Kd.N_far (p := ⟨w2.heap.size, 0, none⟩) NN.out (fun k hk => hk.2) _⟩, ⟨fun b hb => (Below.heap_setCell _ ⟨w2.heap.size, 0, none⟩ _ b (fun e => by
                obtain ⟨cells, hcl⟩ := own_typed_R RD.out b hb
                have := blk_lt hcl
                have e2 : b = w2.heap.size := e
                omega)).trans (TD2.out b hb)⟩, ⟨BX2.out.setCell (p := ⟨w2.heap.size, 0, none⟩) (by show wo.heap.size ≤ w2.heap.size; omega) _⟩⟩, by simp [RowKit.intOf]; omega⟩
        · obtain rfl : j = ss.length := by omega
          have g2 : decide ((ss.length : Int) < (ss.length : Int)) = false := decide_eq_false (by omega)
          have NS2 := NS.out
          rw [List.take_length] at NS2
          have NOB := Aside0.mk (Kd.N_base NO.out)
          have NOL := Aside0.mk (Kd.N_lt NO.out)
          have NOA := Aside0.mk (Kd.N_below NO.out BX.out)
          have VS := Aside0.mk (Kd.V_mono (ok' := fun k => k < w.heap.size ∨ wo.heap.size ≤ k) (Kd.N_V (base' := w.heap.size) NS2) (fun k hk => hk.1))
          have VD := Aside0.mk (Kd.V_mono (ok' := fun k => k < w.heap.size ∨ wo.heap.size ≤ k) (V_of_R (base' := w.heap.size) RD.out TD.out) (fun k hk => by
            have h1 := Kd.R_base RD.out k hk
            rw [World.size_alloc] at h1
            exact .inr (by omega)))
          have hs0 : wx.cell? ⟨w2.heap.size, 0, none⟩ = some vS := (blk_cell HX.out 0).trans rfl
          have hs1 : wx.cell? ⟨w2.heap.size, 1, none⟩ = some (Value.slice AD ds.length cD) := (blk_cell HX.out 1).trans rfl
          clear NS2 NS
          have hwo := BR.out.size
          obtain ⟨AS, cS, hvS⟩ := Kd.V_slice VS.out
          subst hvS
          have QK := Aside0.mk (FK_two (base := w.heap.size) (x := ((ss, ds) : Rl)) VS.out VD.out : Kd.FK kRl wx (fun k => k < w.heap.size ∨ wo.heap.size ≤ k) (ss, ds) [.slice AS ss.length cS, .slice AD ds.length cD])
          have QO := Aside0.mk (fun (k : Nat) (hk : k < w.heap.size ∨ wo.heap.size ≤ k) => (⟨trivial, fun e => by have := NOB.out k e.symm; have := NOL.out k e.symm; rcases hk with hk | hk <;> omega⟩ : True ∧ some k ≠ (u3 : Value).ownBlock))
          go_wp2_with (first | ((with_reducible refine gate_builtin (b := .append) (xs := #[.tmp 57, .tmp 59]) rfl ?_); at_builtin; refine Kd.N_append kRl (w0 := w) w.heap.size rfl (.tmp 57) (.tmp 59) 52 113 (.agg #[.slice none 0 0, .slice none 0 0]) 48 rfl Tryz.underlying52 infoU rfl (by decide) (by omega) u3 (xs.take k) (ss, ds) [.slice AS ss.length cS, .slice AD ds.length cD] (fun _ => True) (fun k => k < w.heap.size ∨ wo.heap.size ≤ k) rfl (by first | (go_simp; done) | (go_simp; rfl)) QK.out QO.out (fun k hk => trivial) NOA.out BWX.out BWX.out.size (by rw [List.length_take]; omega) ?_; intro v13 w13 ho hb hg hat; have NN := Aside0.mk ho; have BN := Aside0.mk hb; clear ho hb hg hat))
          exact ⟨⟨k + 1, by omega, by go_num, ⟨by omega⟩, ⟨by rw [NX.out]; exact NN.out⟩, BN⟩, by simp [RowKit.intOf]; omega⟩
    · obtain rfl : k = xs.length := by omega
      have g1 : decide ((xs.length : Int) < (xs.length : Int)) = false := decide_eq_false (by omega)
      have HK : Aside0 (xs.take 201 = xs.take xs.length) := ⟨by rw [List.take_length, List.take_of_length_le K201.out]⟩
      go_wp2
      go_ret
      exact ⟨_, rfl, by rw [HK.out]; exact Kd.V_mono (Kd.N_V NO.out) (fun _ _ => trivial), BR.out⟩
end Go.Proofs.YtolfpgccebdlpaaGreatDoor.Shn
set_option linter.unusedVariables false
set_option linter.unusedSimpArgs false
namespace Go.Proofs.YtolfpgccebdlpaaGreatDoor.Pure
open Go.RowKit Go.Proofs.YtolfpgccebdlpaaGreatDoor.HT Go.Proofs.YtolfpgccebdlpaaGreatDoorW.PrintWords Go.Proofs.YtolfpgccebdlpaaGreatDoorW.PrintLast Go.Proofs.YtolfpgccebdlpaaGreatDoorW.PrintMore Go.Proofs.Scn Go.Proofs.Tok
theorem w64 {n : Int} (h1 : -9223372036854775808 ≤ n) (h2 : n ≤ 9223372036854775807) : wrap64 n = n := by unfold wrap64; omega
theorem w64s (i : Nat) (h : i < 100000000) : wrap64 ((i : Int) + 1) = ((i + 1 : Nat) : Int) := by rw [w64 (by omega) (by omega)]; omega
theorem _root_.Go.Proofs.YtolfpgccebdlpaaGreatDoorW.PrintWords.Ev.eq {α : Type} {g : Nat → Option α} {a b : α} (h : Ev g a) (e : a = b) : Ev g b := e ▸ h
theorem toL (s : ByteArray) : s.toList = s.data.toList := Lib.toList_data s
theorem sz (s : ByteArray) : s.size = s.data.toList.length := Lib.size_eq s
/-- what stands from a place on -/
theorem drop_at {s : ByteArray} {i : Nat} {c : UInt8} {t : List UInt8} (h : s.data.toList.drop i = c :: t) : i < s.size ∧ bt s (i : Int) = (c.toNat : Int) ∧ s.data.toList.drop (i + 1) = t := by
  have hl : i < s.data.toList.length := by
    apply Nat.lt_of_not_le
    intro hh
    rw [List.drop_eq_nil_of_le hh] at h
    cases h
  have h2 : i < s.size := by rw [sz]; exact hl
  have h3 : s.data.toList[i] = c ∧ s.data.toList.drop (i + 1) = t := by
    rw [List.drop_eq_getElem_cons hl] at h
    exact List.cons.inj h
  refine ⟨h2, ?_, h3.2⟩
  unfold bt
  rw [dif_pos (by rw [Int.toNat_natCast]; exact h2)]
  congr 2
  rw [← h3.1]
  simp [ByteArray.getElem_eq_getElem_data]
theorem ext_data (s : ByteArray) (a b : Nat) : (s.extract a b).data.toList = (s.data.toList.drop a).take (b - a) := by
  rw [ByteArray.data_extract, Array.toList_extract]
theorem ext_to (s : ByteArray) (a : Nat) : (s.extract a s.size).data.toList = s.data.toList.drop a := by
  rw [ext_data, List.take_of_length_le]
  rw [List.length_drop, ← sz]
  exact Nat.le_refl _
theorem rdOf_at {l : List ByteArray} {i : Nat} (h : i < l.length) : rdOf ByteArray.empty l (i : Int) = l[i] := by
  unfold rdOf
  rw [Int.toNat_natCast, List.getD, List.getElem?_eq_getElem h]
  rfl
/-! ### marked -/
abbrev ms : List UInt8 := [35, 46, 58]
abbrev isM (c : UInt8) : Bool := ms.contains c
def mk : List UInt8 → List UInt8 → List (List UInt8)
  | cur, [] => [cur]
  | cur, c :: t => if isM c = true then cur :: mk [c] t else mk (cur ++ [c]) t
def mkA : List UInt8 → List (List UInt8)
  | [] => [[]]
  | c :: t => mk [c] t
theorem mk_hit {c : UInt8} {cur t : List UInt8} (h : isM c = true) : mk cur (c :: t) = cur :: mk [c] t := by rw [mk, if_pos h]
theorem mk_go {c : UInt8} {cur t : List UInt8} (h : isM c = false) : mk cur (c :: t) = mk (cur ++ [c]) t := by rw [mk, h]; rfl
theorem mk_word {t : List UInt8} : ∀ {p cur : List UInt8}, (∀ c ∈ p, isM c = false) → mk cur (p ++ t) = mk (cur ++ p) t
  | [], cur, _ => by simp
  | c :: p, cur, h => by
    rw [List.cons_append, mk_go (h c (by simp)), mk_word fun d hd => h d (by simp [hd])]
    simp
theorem mk_len : ∀ (l cur : List UInt8), (mk cur l).length ≤ l.length + 1
  | [], cur => by simp [mk]
  | c :: t, cur => by
    cases h : isM c with
    | true => rw [mk_hit h]; have := mk_len t [c]; simp; omega
    | false => rw [mk_go h]; have := mk_len t (cur ++ [c]); simp; omega
/-- each piece but the first begins with a mark; each is as long as the text at most -/
theorem mk_pieces : ∀ (l cur : List UInt8), cur ≠ [] → ∀ p ∈ mk cur l, p ≠ [] ∧ p.length ≤ cur.length + l.length
  | [], cur, h, p, hp => by
    rw [mk, List.mem_singleton] at hp
    subst hp
    exact ⟨h, by simp⟩
  | c :: t, cur, h, p, hp => by
    cases hc : isM c with
    | true =>
      rw [mk_hit hc] at hp
      rcases List.mem_cons.1 hp with rfl | hp
      · exact ⟨h, by simp⟩
      · have := mk_pieces t [c] (by simp) p hp
        exact ⟨this.1, by have := this.2; simp at this ⊢; omega⟩
    | false =>
      rw [mk_go hc] at hp
      have := mk_pieces t (cur ++ [c]) (by simp) p hp
      exact ⟨this.1, by have := this.2; simp at this ⊢; omega⟩
theorem iAny (s : ByteArray) (h : s.size ≤ 1000000) : strings_IndexAny.f s ⟨#[35, 46, 58]⟩ = some (Lib.indexAny s.data.toList ms) := by
  unfold strings_IndexAny.f
  rw [if_pos (by omega), if_pos (by decide), if_pos (by decide), if_pos (by decide)]
theorem rMarked : ∀ (n : Nat) (s : ByteArray) (x3 : List ByteArray), s.size ≤ n → n ≤ 100000 → x3.length + n ≤ 1000000 → Ev (fun k => selector_marked.l0 k s x3) (x3 ++ (mkA s.data.toList).map ba)
  | n, s, x3, hn, hm, hx => by
    cases hL : s.data.toList with
    | nil =>
      have h0 : s.size = 0 := by rw [sz, hL]; rfl
      have e : s.extract (mn 1 (s.size : Int)).toNat s.size = s := ba_ext (by rw [ext_to, hL]; simp)
      refine Ev.step (f := fun k => some (x3 ++ [s])) (fun k => ?_) ((Ev.now _).eq ?_)
      · rw [selector_marked.l0, if_pos (by unfold mn; split <;> omega), if_pos (by unfold mn; split <;> omega), e, iAny s (by omega), hL, show Lib.indexAny [] ms = -1 from rfl, Option.bind_some, if_pos (by decide), if_pos (by omega)]
      · rw [mkA]
        simp only [List.map_cons, List.map_nil]
        rw [← hL, data_ba]
    | cons c t =>
      have h1 : s.size = t.length + 1 := by rw [sz, hL]; rfl
      have hmn : mn 1 (s.size : Int) = 1 := by unfold mn; rw [if_neg (by omega)]
      have hx1 : (s.extract 1 s.size).data.toList = t := by rw [ext_to, hL]; rfl
      rcases any_spec ms t with ⟨g1, g2⟩ | ⟨p, b, u, g1, g2, g3, g4⟩
      · refine Ev.step (f := fun k => some (x3 ++ [s])) (fun k => ?_) ((Ev.now _).eq ?_)
        · rw [selector_marked.l0, hmn, if_pos (by omega), if_pos (by omega), show (1 : Int).toNat = 1 from rfl, iAny _ (by rw [sz, hx1]; omega), hx1, g1, Option.bind_some, if_pos (by decide), if_pos (by omega)]
        · have e := mk_word (t := []) (p := t) (cur := [c]) g2
          rw [List.append_nil] at e
          rw [mkA, e, mk]
          simp only [List.map_cons, List.map_nil, List.singleton_append]
          rw [← hL, data_ba]
      · have hlen : t.length = p.length + (u.length + 1) := by rw [g1]; simp
        have e1 : (s.extract (p.length + 1) s.size).data.toList = b :: u := by rw [ext_to, hL, g1]; simp
        have e2 : s.extract 0 (p.length + 1) = ba (c :: p) := ba_ext (by rw [ext_data, ba_data, hL, g1]; simp)
        have ew : wrap64 ((p.length : Int) + 1) = ((p.length + 1 : Nat) : Int) := w64s _ (by omega)
        cases n with
        | zero => omega
        | succ n =>
          refine Ev.step (f := fun k => selector_marked.l0 k (s.extract (p.length + 1) s.size) (x3 ++ [ba (c :: p)])) (fun k => ?_) ((rMarked n (s.extract (p.length + 1) s.size) (x3 ++ [ba (c :: p)]) (by rw [sz, e1]; simp; omega) (by omega) (by simp; omega)).eq ?_)
          · rw [selector_marked.l0, hmn, if_pos (by omega), if_pos (by omega), show (1 : Int).toNat = 1 from rfl, iAny _ (by rw [sz, hx1]; omega), hx1, g4, Option.bind_some, if_neg (by omega), ew, if_pos (by omega), if_pos (by omega), if_pos (by omega), Int.toNat_natCast, e2]
          · rw [e1, g1, mkA, mkA, mk_word g2, mk_hit g3]
            simp
/-! ### simple -/
def it (x : S80) : Smp := (x.f0, x.f1, x.f2, x.f3, x.f4)
abbrev R6 := ByteArray × List ByteArray × List ByteArray × Bool × Bool × Bool
def z6 : R6 := (⟨#[]⟩, [], [], false, false, false)
def smF : List ByteArray → ByteArray → List ByteArray → List ByteArray → Bool → Bool → Option Smp
  | [], t, i, c, l, v => some (t, i, c, l, v)
  | p :: r, t, i, c, l, v => if p.data.toList = [58, 108, 105, 110, 107] then smF r t i c true v else if p.data.toList = [58, 118, 105, 115, 105, 116, 101, 100] then smF r t i c l true else if bt p 0 = 35 then smF r t (i ++ [p.extract 1 p.size]) c l v else if bt p 0 = 46 then smF r t i (c ++ [p.extract 1 p.size]) l v else none
def finT (n : Nat) : Option Smp → R6
  | none => z6
  | some x => (x.1, x.2.1, x.2.2.1, x.2.2.2.1, x.2.2.2.2, decide (n ≤ 8) && mayX x)
def simT (w : ByteArray) : R6 := match w.data.toList with
  | [] => z6
  | c :: t => if isM c = true then finT (mk [c] t).length (smF ((mk [c] t).map ba) ⟨#[]⟩ [] [] false false) else
      finT ((mk [c] t).length - 1) (smF (((mk [c] t).map ba).drop 1) (if (mk [c] t).headD [] = [42] then ⟨#[]⟩ else ba ((mk [c] t).headD [])) [] [] false false)
theorem may_f (t : ByteArray) (i c : List ByteArray) (l v : Bool) (h : (i.length + c.length) ≤ 1000000) (ht : t.size ≤ 100000) (hs : ∀ s ∈ i ++ c, s.size ≤ 100000) : selector_Simple_may.f t i c l v = some (mayX (t, i, c, l, v)) := by
  unfold selector_Simple_may.f
  rw [if_pos]
  · rfl
  · exact ⟨by show (i.length + c.length) * 16 ≤ _; omega, by show t.size < _; omega, fun s h => by have := hs s h; show s.size < _; omega⟩
theorem rSim_l (P : List ByteArray) (hP : P.length ≤ 100001) (hs : ∀ p ∈ P, 1 ≤ p.size ∧ p.size ≤ 100000) (t : ByteArray) (ht : t.size ≤ 100000) : ∀ (d n : Nat) (i c : List ByteArray) (l v : Bool), n + d = P.length → i.length ≤ n → c.length ≤ n → (∀ s ∈ i ++ c, s.size ≤ 100000) →
    Ev (fun k => selector_simple.l0 k (n : Int) P (P.length : Int) (n : Int) t i c l v) (finT P.length (smF (P.drop n) t i c l v))
  | 0, n, i, c, l, v, h, hi, hc, hz => by
    obtain rfl : n = P.length := by omega
    rw [List.drop_length, smF]
    by_cases h8 : P.length ≤ 8
    · refine Ev.step (f := fun k => some (t, i, c, l, v, mayX (t, i, c, l, v))) (fun k => ?_) ((Ev.now _).eq ?_)
      · rw [selector_simple.l0, if_neg (by omega), if_pos (by omega), may_f t i c l v (by omega) ht hz, Option.bind_some]
      · rw [finT, decide_eq_true h8, Bool.true_and]
    · refine Ev.step (f := fun k => some (t, i, c, l, v, false)) (fun k => ?_) ((Ev.now _).eq ?_)
      · rw [selector_simple.l0, if_neg (by omega), if_neg (by omega)]
      · rw [finT, decide_eq_false h8, Bool.false_and]
  | d + 1, n, i, c, l, v, h, hi, hc, hz => by
    have hn : n < P.length := by omega
    have hp := hs P[n] (List.getElem_mem hn)
    have hd : P.drop n = P[n] :: P.drop (n + 1) := List.drop_eq_getElem_cons hn
    have hx : (P[n].extract 1 P[n].size).size ≤ 100000 := by rw [sz, ext_to, List.length_drop, ← sz]; omega
    have ew := w64s n (by omega)
    rw [hd]
    by_cases c1 : P[n].data.toList = [58, 108, 105, 110, 107]
    · refine Ev.step (fun k => ?_) ((rSim_l P hP hs t ht d (n + 1) i c true v (by omega) (by omega) (by omega) hz).eq (by rw [smF, if_pos c1]))
      rw [selector_simple.l0, if_pos (by omega), if_pos (by omega), if_pos (by omega), rdOf_at hn, if_pos (by omega), toL, if_pos c1, ew]
    by_cases c2 : P[n].data.toList = [58, 118, 105, 115, 105, 116, 101, 100]
    · refine Ev.step (fun k => ?_) ((rSim_l P hP hs t ht d (n + 1) i c l true (by omega) (by omega) (by omega) hz).eq (by rw [smF, if_neg c1, if_pos c2]))
      rw [selector_simple.l0, if_pos (by omega), if_pos (by omega), if_pos (by omega), rdOf_at hn, if_pos (by omega), toL, if_neg c1, if_pos c2, ew]
    by_cases c3 : bt P[n] 0 = 35
    · refine Ev.step (fun k => ?_) ((rSim_l P hP hs t ht d (n + 1) (i ++ [P[n].extract 1 P[n].size]) c l v (by omega) (by simp; omega) (by omega) (by
        intro s hm
        rcases List.mem_append.1 hm with hm | hm
        · rcases List.mem_append.1 hm with hm | hm
          · exact hz s (List.mem_append_left _ hm)
          · rw [List.mem_singleton.1 hm]; exact hx
        · exact hz s (List.mem_append_right _ hm))).eq (by rw [smF, if_neg c1, if_neg c2, if_pos c3]))
      rw [selector_simple.l0, if_pos (by omega), if_pos (by omega), if_pos (by omega), rdOf_at hn, if_pos (by omega), toL, if_neg c1, if_neg c2, if_pos (by omega), if_pos c3, if_pos (by omega), ew]
    by_cases c4 : bt P[n] 0 = 46
    · refine Ev.step (fun k => ?_) ((rSim_l P hP hs t ht d (n + 1) i (c ++ [P[n].extract 1 P[n].size]) l v (by omega) (by omega) (by simp; omega) (by
        intro s hm
        rw [← List.append_assoc] at hm
        rcases List.mem_append.1 hm with hm | hm
        · exact hz s hm
        · rw [List.mem_singleton.1 hm]; exact hx)).eq (by rw [smF, if_neg c1, if_neg c2, if_neg c3, if_pos c4]))
      rw [selector_simple.l0, if_pos (by omega), if_pos (by omega), if_pos (by omega), rdOf_at hn, if_pos (by omega), toL, if_neg c1, if_neg c2, if_pos (by omega), if_neg c3, if_pos c4, if_pos (by omega), ew]
    refine Ev.step (f := fun k => some z6) (fun k => ?_) ((Ev.now _).eq (by rw [smF, if_neg c1, if_neg c2, if_neg c3, if_neg c4]; rfl))
    rw [selector_simple.l0, if_pos (by omega), if_pos (by omega), if_pos (by omega), rdOf_at hn, if_pos (by omega), toL, if_neg c1, if_neg c2, if_pos (by omega), if_neg c3, if_neg c4]
    rfl
theorem rByte (c : UInt8) : strings_IndexByte.f ⟨#[35, 46, 58]⟩ (c.toNat : Int) = some (Lib.indexByte ms c) ∧ decide (Lib.indexByte ms c < 0) = !isM c := by
  have h : ((List.range 256).all fun n => decide (strings_IndexByte.f ⟨#[35, 46, 58]⟩ (n : Int) = some (Lib.indexByte ms (UInt8.ofNat n))) && decide (decide (Lib.indexByte ms (UInt8.ofNat n) < 0) = !isM (UInt8.ofNat n))) = true := by kernel_rfl
  have h2 := List.all_eq_true.1 h c.toNat (List.mem_range.2 c.toNat_lt)
  rw [Bool.and_eq_true] at h2
  have h3 := of_decide_eq_true h2.1
  have h4 := of_decide_eq_true h2.2
  simp at h3 h4
  exact ⟨h3, by simpa using h4⟩
theorem mk_ne (l cur : List UInt8) : ∃ a r, mk cur l = a :: r := by
  induction l generalizing cur with
  | nil => exact ⟨cur, [], rfl⟩
  | cons c t ih =>
    cases h : isM c with
    | true => exact ⟨cur, _, mk_hit h⟩
    | false => rw [mk_go h]; exact ih _
theorem rSimple (w : ByteArray) (hw : w.size ≤ 100000) : Ev (fun k => selector_simple.f k w) (simT w) := by
  cases hL : w.data.toList with
  | nil =>
    refine Ev.congr (f := fun k => some z6) (fun k => ?_) ((Ev.now _).eq (by unfold simT; rw [hL]))
    rw [selector_simple.f, if_pos (by rw [toL, hL])]
    rfl
  | cons c t =>
    have h1 : w.size = t.length + 1 := by rw [sz, hL]; rfl
    obtain ⟨_, hb, _⟩ := drop_at (s := w) (i := 0) (c := c) (t := t) (by rw [List.drop_zero, hL])
    have hb0 : bt w 0 = (c.toNat : Int) := hb
    have hm := rMarked w.size w [] (Nat.le_refl _) hw (by simp; omega)
    rw [hL, mkA, List.nil_append] at hm
    have hlen := mk_len t [c]
    have hpc := mk_pieces t [c] (by simp)
    have hsim : simT w = if isM c = true then finT (mk [c] t).length (smF ((mk [c] t).map ba) ⟨#[]⟩ [] [] false false) else finT ((mk [c] t).length - 1) (smF (((mk [c] t).map ba).drop 1) (if (mk [c] t).headD [] = [42] then ⟨#[]⟩ else ba ((mk [c] t).headD [])) [] [] false false) := by
      unfold simT; rw [hL]
    rw [hsim]
    obtain ⟨a, r, hmk⟩ := mk_ne t [c]
    generalize hP : (mk [c] t).map ba = P at hm ⊢
    have hPl : P.length = (mk [c] t).length := by rw [← hP, List.length_map]
    have hPs : ∀ p ∈ P, 1 ≤ p.size ∧ p.size ≤ 100000 := by
      intro p hp
      rw [← hP] at hp
      obtain ⟨q, hq, rfl⟩ := List.mem_map.1 hp
      have := hpc q hq
      rw [sz, ba_data]
      have h2 := this.2
      have h3 : q.length ≠ 0 := fun e => this.1 (List.length_eq_zero_iff.1 e)
      simp at h2
      omega
    have hnn : ¬ w.toList = [] := by rw [toL, hL]; simp
    obtain ⟨hby, hlt⟩ := rByte c
    have hPc : P = ba a :: r.map ba := by rw [← hP, hmk]; rfl
    refine Ev.congr (f := fun k => (selector_marked.f k w).bind fun t110 => (if Lib.indexByte ms c < 0 then (if 0 < (t110.length : Int) then (if (rdOf ByteArray.empty t110 0).toList = ([42] : List UInt8) then (if 1 ≤ (t110.length : Int) then (selector_simple.j0 k (t110.drop (1 : Int).toNat) (⟨#[]⟩ : ByteArray) false false) else (none)) else (if 1 ≤ (t110.length : Int) then (selector_simple.j0 k (t110.drop (1 : Int).toNat) (rdOf ByteArray.empty t110 0) false false) else (none))) else (none)) else (selector_simple.j0 k t110 (⟨#[]⟩ : ByteArray) false false))) (fun k => ?_) ?_
    · rw [selector_simple.f, if_neg hnn]
      congr 1
      funext t110
      rw [if_pos (by omega), hb0, hby, Option.bind_some]
    refine Ev.bind (a := P) (Ev.congr (fun k => rfl) hm) ?_
    have l0 : P.length ≤ 100001 := by omega
    cases hc : isM c with
    | true =>
      have hneg : ¬ Lib.indexByte ms c < 0 := by
        intro h
        rw [decide_eq_true h, hc] at hlt
        cases hlt
      simp only [if_neg hneg, if_true]
      refine Ev.step (f := fun k => selector_simple.l0 k ((0 : Nat) : Int) P (P.length : Int) ((0 : Nat) : Int) ⟨#[]⟩ [] [] false false) (fun k => by rw [selector_simple.j0]; rfl) ?_
      refine (rSim_l P l0 hPs ⟨#[]⟩ (by decide) P.length 0 [] [] false false (by omega) (by simp) (by simp) (by simp)).eq ?_
      rw [List.drop_zero, hPl]
    | false =>
      have hpos : Lib.indexByte ms c < 0 := by
        rw [hc] at hlt
        exact of_decide_eq_true hlt
      have hr : rdOf ByteArray.empty P 0 = ba a := by rw [hPc]; rfl
      have hPn : (P.drop 1).length = (mk [c] t).length - 1 := by rw [List.length_drop, hPl]
      have hds : ∀ p ∈ P.drop 1, 1 ≤ p.size ∧ p.size ≤ 100000 := fun p hp => hPs p (List.mem_of_mem_drop hp)
      have hl1 : 0 < (P.length : Int) := by rw [hPc, List.length_cons]; omega
      have has : (ba a).size ≤ 100000 := (hPs (ba a) (by rw [hPc]; simp)).2
      simp only [if_pos hpos, if_pos hl1, if_pos (show 1 ≤ (P.length : Int) by omega), hr, Bool.false_eq_true, if_false, hmk, List.headD_cons]
      rw [show (1 : Int).toNat = 1 from rfl, toL, ba_data]
      rw [hmk] at hPn
      by_cases ha : a = [42]
      · simp only [if_pos ha]
        refine Ev.step (f := fun k => selector_simple.l0 k ((0 : Nat) : Int) (P.drop 1) ((P.drop 1).length : Int) ((0 : Nat) : Int) ⟨#[]⟩ [] [] false false) (fun k => by rw [selector_simple.j0]; rfl) ?_
        refine (rSim_l (P.drop 1) (by rw [List.length_drop]; omega) hds ⟨#[]⟩ (by decide) (P.drop 1).length 0 [] [] false false (by omega) (by simp) (by simp) (by simp)).eq ?_
        rw [List.drop_zero, hPn]
      · simp only [if_neg ha]
        refine Ev.step (f := fun k => selector_simple.l0 k ((0 : Nat) : Int) (P.drop 1) ((P.drop 1).length : Int) ((0 : Nat) : Int) (ba a) [] [] false false) (fun k => by rw [selector_simple.j0]; rfl) ?_
        refine (rSim_l (P.drop 1) (by rw [List.length_drop]; omega) hds (ba a) has (P.drop 1).length 0 [] [] false false (by omega) (by simp) (by simp) (by simp)).eq ?_
        rw [List.drop_zero, hPn]
end Go.Proofs.YtolfpgccebdlpaaGreatDoor.Pure
namespace Go.Proofs.YtolfpgccebdlpaaGreatDoor.Pure
open Go.RowKit Go.Proofs.YtolfpgccebdlpaaGreatDoor.HT Go.Proofs.YtolfpgccebdlpaaGreatDoorW.PrintWords Go.Proofs.YtolfpgccebdlpaaGreatDoorW.PrintLast Go.Proofs.YtolfpgccebdlpaaGreatDoorW.PrintMore Go.Proofs.Scn Go.Proofs.Tok
/-! ### every > gets blanks about it -/
def gt (l : List UInt8) : List UInt8 := l.flatMap fun c => if c = 62 then [32, 62, 32] else [c]
theorem gt_app (a b : List UInt8) : gt (a ++ b) = gt a ++ gt b := List.flatMap_append
theorem gt_hit (t : List UInt8) : gt (62 :: t) = 32 :: 62 :: 32 :: gt t := by simp [gt]
theorem gt_go {c : UInt8} (h : c ≠ 62) (t : List UInt8) : gt (c :: t) = c :: gt t := by simp [gt, h]
theorem gt_id : ∀ {l : List UInt8}, (∀ c ∈ l, c ≠ 62) → gt l = l
  | [], _ => rfl
  | c :: t, h => by rw [gt_go (h c (by simp)), gt_id fun d hd => h d (by simp [hd])]
theorem gt_len : ∀ l : List UInt8, (gt l).length ≤ 3 * l.length
  | [] => Nat.le_refl _
  | c :: t => by
    have := gt_len t
    by_cases h : c = 62
    · subst h; rw [gt_hit]; simp; omega
    · rw [gt_go h]; simp; omega
theorem replaceK_gt : ∀ (n : Nat) (l : List UInt8), l.length < n → Lib.replaceK [62] [32, 62, 32] (Lib.countFrom [62] n l) l = gt l
  | 0, l, h => by omega
  | n + 1, l, h => by
    rcases idx_spec 62 l with ⟨h1, h2⟩ | ⟨p, t, h1, h2, h3⟩
    · rw [Lib.countFrom, h1, gt_id fun c hc e => h2 (e ▸ hc)]
      rfl
    · have hn : ((p.length : Int) == -1) = false := by rw [beq_eq_false_iff_ne]; omega
      have hd : l.drop (p.length + 1) = t := by rw [h1]; simp
      have ht : l.take p.length = p := by rw [h1]; simp
      have hl : t.length < n := by rw [h1] at h; simp at h; omega
      rw [Lib.countFrom, h3, hn, if_neg (by decide), Nat.add_comm 1, Lib.replaceK, h3, hn, if_neg (by decide)]
      show l.take p.length ++ [32, 62, 32] ++ Lib.replaceK [62] [32, 62, 32] (Lib.countFrom [62] n (l.drop (p.length + 1))) (l.drop (p.length + 1)) = _
      rw [hd, ht, replaceK_gt n t hl, h1, gt_app, gt_hit, gt_id fun c hc e => h2 (e ▸ hc)]
      simp
theorem replace_gt (l : List UInt8) : Lib.replaceAll l [62] [32, 62, 32] = gt l := by
  unfold Lib.replaceAll Lib.replace Lib.replaceNum
  rw [if_neg (by decide), if_pos (Or.inl (by decide))]
  exact replaceK_gt _ l (Nat.lt_succ_self _)
theorem repl_f (s : ByteArray) (h : s.size ≤ 1000000) : strings_ReplaceAll.f s ⟨#[62]⟩ ⟨#[32, 62, 32]⟩ = some (ba (gt s.data.toList)) := by
  have hc : Lib.countB s ⟨#[62]⟩ ≤ s.data.toList.length + 1 := Lib.count_le _ _
  have h3 : (⟨#[32, 62, 32]⟩ : ByteArray).size = 3 := rfl
  unfold strings_ReplaceAll.f
  rw [if_pos]
  · show some (⟨(Lib.replaceAll s.data.toList [62] [32, 62, 32]).toArray⟩ : ByteArray) = _
    rw [replace_gt]
    rfl
  · refine ⟨by omega, by decide, ?_⟩
    rw [h3]
    rw [← sz] at hc
    omega
/-! ### words -/
theorem wg_len : ∀ (l cur : List UInt8), (wg cur l).length ≤ l.length + 1
  | [], cur => by rw [wg]; split <;> simp
  | c :: t, cur => by
    have h1 := wg_len t []
    have h2 := wg_len t (cur ++ [c])
    rw [wg]
    split
    · split <;> simp <;> omega
    · simp; omega
theorem wg_mem : ∀ (l cur : List UInt8), (∀ c ∈ cur, isB c = false) → ∀ p ∈ wg cur l, p ≠ [] ∧ p.length ≤ cur.length + l.length ∧ ∀ c ∈ p, isB c = false
  | [], cur, h, p, hp => by
    rw [wg] at hp
    split at hp
    · cases hp
    · rename_i hc
      rw [List.mem_singleton.1 hp]
      exact ⟨hc, by simp, h⟩
  | c :: t, cur, h, p, hp => by
    rw [wg] at hp
    split at hp
    · split at hp
      · have := wg_mem t [] (by simp) p hp
        exact ⟨this.1, by have := this.2.1; simp at this ⊢; omega, this.2.2⟩
      · rename_i hc
        rcases List.mem_cons.1 hp with rfl | hp
        · exact ⟨hc, by simp, h⟩
        · have := wg_mem t [] (by simp) p hp
          exact ⟨this.1, by have := this.2.1; simp at this ⊢; omega, this.2.2⟩
    · rename_i hb
      have := wg_mem t (cur ++ [c]) (by
        intro d hd
        rcases List.mem_append.1 hd with hd | hd
        · exact h d hd
        · rw [List.mem_singleton.1 hd]; simpa using hb) p hp
      exact ⟨this.1, by have := this.2.1; simp at this ⊢; omega, this.2.2⟩
/-! ### Read -/
def m44 (r : R6) : S80 := ⟨r.1, r.2.1, r.2.2.1, r.2.2.2.1, r.2.2.2.2.1⟩
abbrev RR := List S80 × List Bool × Bool
def zr : RR := ([], [], false)
def rdL : List ByteArray → Bool → Bool → List S80 → List Bool → RR
  | [], d, f, ps, bs => if f = true then zr else if d = true then zr else (ps, bs, true)
  | w :: ws, d, f, ps, bs => if w.data.toList = [62] then (if d = true then zr else if f = true then zr else rdL ws true f ps bs) else
    if (simT w).2.2.2.2.2 = true then (if ps.length = 8 then zr else rdL ws false false (ps ++ [m44 (simT w)]) (if f = true then bs else bs ++ [d])) else zr
def wordsR (l : List UInt8) : List (List UInt8) := wg [] (gt (l.map lowB))
def readV (s : ByteArray) : RR := rdL ((wordsR s.data.toList).map ba) false true [] []
theorem rRead_l (ws : List ByteArray) (hw : ws.length ≤ 1000000) (hs : ∀ w ∈ ws, w.size ≤ 100000) : ∀ (d n : Nat) (dr f : Bool) (ps : List S80) (bs : List Bool), n + d = ws.length → ps.length ≤ n → bs.length ≤ n →
    Ev (fun k => selector_Read.l0 k dr f ws (ws.length : Int) (n : Int) ps bs) (rdL (ws.drop n) dr f ps bs)
  | 0, n, dr, f, ps, bs, h, hp, hb => by
    obtain rfl : n = ws.length := by omega
    rw [List.drop_length, rdL]
    cases f with
    | true => exact Ev.step (f := fun k => some zr) (fun k => by rw [selector_Read.l0, if_neg (by omega), if_pos rfl]; rfl) ((Ev.now _).eq (by rw [if_pos rfl]))
    | false =>
      cases dr with
      | true => exact Ev.step (f := fun k => some zr) (fun k => by rw [selector_Read.l0, if_neg (by omega), if_neg (by decide), if_pos rfl]; rfl) ((Ev.now _).eq (by rw [if_neg (by decide), if_pos rfl]))
      | false => exact Ev.step (f := fun k => some (ps, bs, true)) (fun k => by rw [selector_Read.l0, if_neg (by omega), if_neg (by decide), if_neg (by decide)]) ((Ev.now _).eq (by rw [if_neg (by decide), if_neg (by decide)]))
  | d + 1, n, dr, f, ps, bs, h, hp, hb => by
    have hn : n < ws.length := by omega
    have hd : ws.drop n = ws[n] :: ws.drop (n + 1) := List.drop_eq_getElem_cons hn
    have ew := w64s n (by omega)
    rw [hd, rdL]
    by_cases c1 : ws[n].data.toList = [62]
    · rw [if_pos c1]
      cases dr with
      | true => exact Ev.step (f := fun k => some zr) (fun k => by rw [selector_Read.l0, if_pos (by omega), if_pos (by omega), if_pos (by omega), rdOf_at hn, toL, if_pos c1, if_pos rfl]; rfl) ((Ev.now _).eq (by rw [if_pos rfl]))
      | false =>
        cases f with
        | true => exact Ev.step (f := fun k => some zr) (fun k => by rw [selector_Read.l0, if_pos (by omega), if_pos (by omega), if_pos (by omega), rdOf_at hn, toL, if_pos c1, if_neg (by decide), if_pos rfl]; rfl) ((Ev.now _).eq (by rw [if_neg (by decide), if_pos rfl]))
        | false =>
          refine Ev.step (fun k => ?_) ((rRead_l ws hw hs d (n + 1) true false ps bs (by omega) (by omega) (by omega)).eq (by rw [if_neg (by decide), if_neg (by decide)]))
          rw [selector_Read.l0, if_pos (by omega), if_pos (by omega), if_pos (by omega), rdOf_at hn, toL, if_pos c1, if_neg (by decide), if_neg (by decide), ew]
    · rw [if_neg c1]
      have hS := rSimple ws[n] (hs _ (List.getElem_mem hn))
      generalize simT ws[n] = r at hS ⊢
      refine Ev.step (f := fun k => (selector_simple.f k ws[n]).bind fun bt138 => (if bt138.2.2.2.2.2 = true then (selector_Read.j1 k dr f ws (ws.length : Int) (n : Int) ((ps.length : Int) == 8) ps bs bt138.1 bt138.2.1 bt138.2.2.1 bt138.2.2.2.1 bt138.2.2.2.2.1) else (selector_Read.j1 k dr f ws (ws.length : Int) (n : Int) true ps bs bt138.1 bt138.2.1 bt138.2.2.1 bt138.2.2.2.1 bt138.2.2.2.2.1))) (fun k => by rw [selector_Read.l0, if_pos (by omega), if_pos (by omega), if_pos (by omega), rdOf_at hn, toL, if_neg c1]) ?_
      refine Ev.bind hS ?_
      by_cases c2 : r.2.2.2.2.2 = true
      · simp only [if_pos c2]
        by_cases c3 : ps.length = 8
        · have e8 : ((ps.length : Int) == 8) = true := by rw [beq_iff_eq]; omega
          exact Ev.step (f := fun k => some zr) (fun k => by rw [selector_Read.j1, e8, if_pos rfl]; rfl) ((Ev.now _).eq (by rw [if_pos c3]))
        · have e8 : ((ps.length : Int) == 8) = false := by rw [beq_eq_false_iff_ne]; omega
          have ih := fun bs' hb' => rRead_l ws hw hs d (n + 1) false false (ps ++ [m44 r]) bs' (by omega) (by simp; omega) hb'
          rw [if_neg c3]
          cases f with
          | true =>
            refine Ev.step (fun k => ?_) ((ih bs (by omega)).eq (by rw [if_pos rfl]))
            rw [selector_Read.j1, e8, if_neg (by decide), if_pos rfl, if_pos (by omega), ew]
            rfl
          | false =>
            refine Ev.step (fun k => ?_) ((ih (bs ++ [dr]) (by simp; omega)).eq (by rw [if_neg (by decide)]))
            rw [selector_Read.j1, e8, if_neg (by decide), if_neg (by decide), if_pos (by omega), if_pos (by omega), ew]
            rfl
      · simp only [if_neg c2]
        exact Ev.step (f := fun k => some zr) (fun k => by rw [selector_Read.j1, if_pos rfl]; rfl) (Ev.now _)
theorem rRead (s : ByteArray) (hs : s.size ≤ 30000) : Ev (fun k => selector_Read.f k s) (readV s) := by
  have hl : (lowV s).size = s.size := by rw [sz, lowV_data, List.length_map, ← sz]
  have hg : (ba (gt (lowV s).data.toList)).size ≤ 90000 := by
    have := gt_len (lowV s).data.toList
    rw [sz, ba_data]
    rw [← sz, hl] at this
    omega
  have hW : wordsV (ba (gt (lowV s).data.toList)) = (wordsR s.data.toList).map ba := by rw [wordsV_eq, ba_data, lowV_data]; rfl
  have hlen : (wordsR s.data.toList).length ≤ 90001 := by
    have := wg_len (gt (s.data.toList.map lowB)) []
    have h2 := gt_len (s.data.toList.map lowB)
    rw [List.length_map, ← sz] at h2
    unfold wordsR
    omega
  have hmem : ∀ w ∈ (wordsR s.data.toList).map ba, w.size ≤ 100000 := by
    intro w hw
    obtain ⟨p, hp, rfl⟩ := List.mem_map.1 hw
    have := (wg_mem (gt (s.data.toList.map lowB)) [] (by simp) p hp).2.1
    have h2 := gt_len (s.data.toList.map lowB)
    rw [List.length_map, ← sz] at h2
    rw [sz, ba_data]
    simp at this
    omega
  refine Ev.congr (f := fun k => selector_Read.l0 k false true ((wordsR s.data.toList).map ba) (((wordsR s.data.toList).map ba).length : Int) ((0 : Nat) : Int) [] []) (fun k => ?_) ((rRead_l _ (by rw [List.length_map]; omega) hmem ((wordsR s.data.toList).map ba).length 0 false true [] [] (Nat.zero_add _) (by simp) (by simp)).eq (by rw [List.drop_zero]; rfl))
  rw [selector_Read.f, scan_Lower.f, if_pos (by omega), Option.bind_some, repl_f _ (by omega), Option.bind_some, scan_Words.f, if_pos (by omega), Option.bind_some, hW]
  rfl
end Go.Proofs.YtolfpgccebdlpaaGreatDoor.Pure
namespace Go.Proofs.YtolfpgccebdlpaaGreatDoor.Pure
open Go.RowKit Go.Proofs.YtolfpgccebdlpaaGreatDoor.HT Go.Proofs.YtolfpgccebdlpaaGreatDoorW.PrintWords Go.Proofs.YtolfpgccebdlpaaGreatDoorW.PrintLast Go.Proofs.YtolfpgccebdlpaaGreatDoorW.PrintMore Go.Proofs.Scn Go.Proofs.Tok
/-! ### names -/
def okc (c : UInt8) : Bool := (decide (97 ≤ c.toNat) && decide (c.toNat ≤ 122)) || ((decide (48 ≤ c.toNat) && decide (c.toNat ≤ 57)) || c == 45)
def okT (c : UInt8) : Bool := okc c || (isM c || c == 42)
theorem all256 (p : UInt8 → Bool) (h : ((List.range 256).all fun n => p (UInt8.ofNat n)) = true) (c : UInt8) : p c = true := by
  have := List.all_eq_true.1 h c.toNat (List.mem_range.2 c.toNat_lt)
  simpa using this
theorem okc_M {c : UInt8} (h : okc c = true) : isM c = false ∧ c ≠ 42 := by
  have := all256 (fun c => !okc c || (!isM c && c != 42)) (by kernel_rfl) c
  simp only [h, Bool.not_true, Bool.false_or, Bool.and_eq_true, Bool.not_eq_true', bne_iff_ne] at this
  exact this
theorem okT_all {c : UInt8} (h : okT c = true) : isB c = false ∧ c ≠ 62 ∧ lowB c = c ∧ c ≠ 44 := by
  have := all256 (fun c => !okT c || (!isB c && (c != 62 && (lowB c == c && c != 44)))) (by kernel_rfl) c
  simp only [h, Bool.not_true, Bool.false_or, Bool.and_eq_true, Bool.not_eq_true', bne_iff_ne, beq_iff_eq] at this
  exact this
theorem in_ok {c : UInt8} (h1 : inI (c.toNat : Int) = true) (h2 : lowT c = c) : okc c = true := by
  have := all256 (fun c => !(inI (c.toNat : Int) && lowT c == c) || okc c) (by kernel_rfl) c
  simpa [h1, h2] using this
theorem name_ok {l : List UInt8} (h : nameV l = true) : l ≠ [] ∧ ∀ c ∈ l, okc c = true := by
  unfold nameV at h
  rw [Bool.and_eq_true, Bool.and_eq_true] at h
  obtain ⟨h1, h2, h3⟩ := h
  have h2 := of_decide_eq_true h2
  have h3 := eq_of_beq h3
  rw [h2, List.take_length, toL, toL] at h3
  have h4 : l.map lowT = l := by simpa [lowTV] using h3
  have h5 : ∀ c ∈ l, lowT c = id c := List.map_inj_left.1 (h4.trans (List.map_id l).symm)
  constructor
  · rintro rfl
    simp [nameOk, lead_nil] at h1
  · intro c hc
    obtain ⟨k, hk, rfl⟩ := List.getElem_of_mem hc
    have h6 := lead_lt (l := l) (k := k) (by omega)
    rw [List.getD, List.getElem?_eq_getElem hk] at h6
    exact in_ok h6 (h5 _ hc)
/-! ### a part's text -/
def lkW : List UInt8 := [58, 108, 105, 110, 107]
def viW : List UInt8 := [58, 118, 105, 115, 105, 116, 101, 100]
def tl (x : Smp) : List (List UInt8) := (x.2.1.map fun s => 35 :: s.data.toList) ++ ((x.2.2.1.map fun s => 46 :: s.data.toList) ++ ((if x.2.2.2.1 = true then [lkW] else []) ++ (if x.2.2.2.2 = true then [viW] else [])))
theorem textL_eq (x : Smp) : textL x = x.1.data.toList ++ (tl x).flatten := by
  unfold textL tl preW
  rw [List.flatten_append, List.flatten_append, List.flatten_append, ← List.flatMap_def, ← List.flatMap_def, List.append_assoc, List.append_assoc, List.append_assoc]
  congr 3
  cases x.2.2.2.1 <;> cases x.2.2.2.2 <;> simp [lkW, viW]
def gp (p : List UInt8) : Prop := ∃ m n, p = m :: n ∧ isM m = true ∧ ∀ c ∈ n, okc c = true
theorem mk_tl : ∀ Q : List (List UInt8), (∀ p ∈ Q, gp p) → ∀ cur, mk cur Q.flatten = cur :: Q
  | [], _, cur => rfl
  | p :: Q, h, cur => by
    obtain ⟨m, n, rfl, hm, hn⟩ := h p (by simp)
    rw [List.flatten_cons, List.cons_append, mk_hit hm, mk_word (fun c hc => (okc_M (hn c hc)).1), mk_tl Q (fun q hq => h q (by simp [hq]))]
    rfl
theorem may_parts {x : Smp} (h : mayX x = true) : (x.1.data.toList = [] ∨ nameV x.1.data.toList = true) ∧ (∀ s ∈ x.2.1 ++ x.2.2.1, nameV s.data.toList = true) ∧ (tl x).length ≤ 8 := by
  unfold mayX mayV at h
  rw [Bool.and_eq_true, Bool.and_eq_true, Bool.or_eq_true, decide_eq_true_iff] at h
  obtain ⟨h1, h2, h3⟩ := h
  refine ⟨h1, ?_, ?_⟩
  · intro s hs
    rw [Bool.not_eq_true'] at h2
    have := List.any_eq_false.1 h2 s hs
    simpa [noName] using this
  · have h3 := of_decide_eq_true h3
    unfold tl
    unfold truthV at h3
    rw [List.length_append] at h3
    rw [List.length_append, List.length_append, List.length_append, List.length_map, List.length_map]
    cases hl : x.2.2.2.1 <;> cases hv : x.2.2.2.2 <;> simp [hl, hv] at h3 ⊢ <;> omega
theorem tl_gp {x : Smp} (h : mayX x = true) : ∀ p ∈ tl x, gp p := by
  have h2 := (may_parts h).2.1
  intro p hp
  unfold tl at hp
  rcases List.mem_append.1 hp with hp | hp
  · obtain ⟨s, hs, rfl⟩ := List.mem_map.1 hp
    exact ⟨35, _, rfl, by decide, (name_ok (h2 s (List.mem_append_left _ hs))).2⟩
  rcases List.mem_append.1 hp with hp | hp
  · obtain ⟨s, hs, rfl⟩ := List.mem_map.1 hp
    exact ⟨46, _, rfl, by decide, (name_ok (h2 s (List.mem_append_right _ hs))).2⟩
  rcases List.mem_append.1 hp with hp | hp
  · split at hp
    · rw [List.mem_singleton.1 hp]
      exact ⟨58, [108, 105, 110, 107], rfl, by decide, by decide⟩
    · cases hp
  · split at hp
    · rw [List.mem_singleton.1 hp]
      exact ⟨58, [118, 105, 115, 105, 116, 101, 100], rfl, by decide, by decide⟩
    · cases hp
theorem bt_ba (c : UInt8) (t : List UInt8) : bt (ba (c :: t)) 0 = (c.toNat : Int) := (drop_at (s := ba (c :: t)) (i := 0) (c := c) (t := t) (by rw [ba_data]; rfl)).2.1
theorem ext_ba (c : UInt8) (s : ByteArray) : (ba (c :: s.data.toList)).extract 1 (ba (c :: s.data.toList)).size = s := ba_ext (by rw [ext_to, ba_data]; rfl)
theorem smF_ids (t : ByteArray) (c : List ByteArray) (l v : Bool) (r : List ByteArray) : ∀ (ids i : List ByteArray), smF ((ids.map fun s => ba (35 :: s.data.toList)) ++ r) t i c l v = smF r t (i ++ ids) c l v
  | [], i => by simp
  | s :: ids, i => by
    rw [List.map_cons, List.cons_append, smF, ba_data, if_neg (by simp), if_neg (by simp), bt_ba, if_pos (by decide), ext_ba, smF_ids t c l v r ids]
    simp
theorem smF_cls (t : ByteArray) (i : List ByteArray) (l v : Bool) (r : List ByteArray) : ∀ (cls c : List ByteArray), smF ((cls.map fun s => ba (46 :: s.data.toList)) ++ r) t i c l v = smF r t i (c ++ cls) l v
  | [], c => by simp
  | s :: cls, c => by
    rw [List.map_cons, List.cons_append, smF, ba_data, if_neg (by simp), if_neg (by simp), bt_ba, if_neg (by decide), if_pos (by decide), ext_ba, smF_cls t i l v r cls]
    simp
theorem smF_tl (x : Smp) : smF ((tl x).map ba) x.1 [] [] false false = some x := by
  obtain ⟨t, i, c, l, v⟩ := x
  have e : (tl (t, i, c, l, v)).map ba = (i.map fun s => ba (35 :: s.data.toList)) ++ ((c.map fun s => ba (46 :: s.data.toList)) ++ ((if l = true then [ba lkW] else []) ++ (if v = true then [ba viW] else []))) := by
    unfold tl
    rw [List.map_append, List.map_append, List.map_append, List.map_map, List.map_map]
    cases l <;> cases v <;> rfl
  rw [e, smF_ids, smF_cls, List.nil_append, List.nil_append]
  cases l <;> cases v <;> simp [smF, ba_data, lkW, viW]
def T (x : Smp) : List UInt8 := (textV x).data.toList
theorem T_eq (x : Smp) : T x = if textL x = [] then [42] else textL x := by
  unfold T textV
  split <;> simp
theorem simT_text {x : Smp} (h : mayX x = true) : simT (textV x) = (x.1, x.2.1, x.2.2.1, x.2.2.2.1, x.2.2.2.2, true) := by
  have hT := T_eq x
  obtain ⟨h1, h2, h3⟩ := may_parts h
  have hg := tl_gp h
  have fin : ∀ n, n ≤ 8 → finT n (some x) = (x.1, x.2.1, x.2.2.1, x.2.2.2.1, x.2.2.2.2, true) := fun n hn => by rw [finT, decide_eq_true hn, h]; rfl
  have hx1 : x.1.data.toList = [] → x.1 = ⟨#[]⟩ := fun e => ba_ext (by rw [e])
  unfold simT
  rw [show (textV x).data.toList = T x from rfl, hT]
  cases hx : x.1.data.toList with
  | nil =>
    have ht := hx1 hx
    cases hQ : tl x with
    | nil =>
      have e0 : textL x = [] := by rw [textL_eq, hx, hQ]; rfl
      have hs := smF_tl x
      rw [hQ, ht] at hs
      rw [if_pos e0]
      show (if isM 42 = true then _ else _) = _
      rw [if_neg (by decide)]
      show finT 0 (smF [] ⟨#[]⟩ [] [] false false) = _
      rw [show smF [] ⟨#[]⟩ [] [] false false = some x from hs]
      exact fin 0 (by omega)
    | cons p Q =>
      obtain ⟨m, n, rfl, hm, hn⟩ := hg p (by rw [hQ]; simp)
      have e1 : textL x = m :: (n ++ Q.flatten) := by rw [textL_eq, hx, hQ]; simp
      have e2 : mk [m] (n ++ Q.flatten) = tl x := by
        rw [mk_word (fun c hc => (okc_M (hn c hc)).1), mk_tl Q (fun q hq => hg q (by rw [hQ]; simp [hq])), hQ]
        rfl
      rw [if_neg (by rw [e1]; simp), e1]
      show (if isM m = true then finT (mk [m] (n ++ Q.flatten)).length (smF ((mk [m] (n ++ Q.flatten)).map ba) ⟨#[]⟩ [] [] false false) else _) = _
      rw [if_pos hm, e2, ← ht, smF_tl]
      exact fin _ h3
  | cons c t =>
    have hnm : nameV (c :: t) = true := by
      rcases h1 with h1 | h1
      · rw [hx] at h1; cases h1
      · rw [hx] at h1; exact h1
    have hok := (name_ok hnm).2
    have hc := okc_M (hok c (by simp))
    have e1 : textL x = c :: (t ++ (tl x).flatten) := by rw [textL_eq, hx]; simp
    have e2 : mk [c] (t ++ (tl x).flatten) = (c :: t) :: tl x := by
      rw [mk_word (fun d hd => (okc_M (hok d (by simp [hd]))).1), mk_tl _ hg]
      rfl
    rw [if_neg (by rw [e1]; simp), e1]
    show (if isM c = true then _ else finT ((mk [c] (t ++ (tl x).flatten)).length - 1) (smF (((mk [c] (t ++ (tl x).flatten)).map ba).drop 1) (if (mk [c] (t ++ (tl x).flatten)).headD [] = [42] then ⟨#[]⟩ else ba ((mk [c] (t ++ (tl x).flatten)).headD [])) [] [] false false)) = _
    have hne : ¬ (c :: t) = [42] := fun e => hc.2 (List.cons.inj e).1
    have hb : ba (c :: t) = x.1 := by rw [← hx, data_ba]
    rw [if_neg (by rw [hc.1]; decide), e2]
    show finT (tl x).length (smF ((tl x).map ba) (if (c :: t) = [42] then ⟨#[]⟩ else ba (c :: t)) [] [] false false) = _
    rw [if_neg hne, hb, smF_tl]
    exact fin _ h3
theorem T_ok {x : Smp} (h : mayX x = true) : T x ≠ [] ∧ ∀ c ∈ T x, okT c = true := by
  obtain ⟨h1, h2, h3⟩ := may_parts h
  have hg := tl_gp h
  rw [T_eq]
  split
  · exact ⟨by simp, by decide⟩
  · rename_i hne
    refine ⟨hne, ?_⟩
    intro c hc
    rw [textL_eq] at hc
    rcases List.mem_append.1 hc with hc | hc
    · rcases h1 with h1 | h1
      · rw [h1] at hc; cases hc
      · unfold okT
        rw [(name_ok h1).2 c hc]
        rfl
    · obtain ⟨p, hp, hc⟩ := List.mem_flatten.1 hc
      obtain ⟨m, n, rfl, hm, hn⟩ := hg p hp
      unfold okT
      rcases List.mem_cons.1 hc with rfl | hc
      · rw [hm]; simp
      · rw [hn c hc]; rfl
/-! ### the words of what is printed -/
def sp (b : Bool) : List UInt8 := if b = true then [32, 62, 32] else [32]
def pl : List Smp → List Bool → List UInt8
  | x :: xs, b :: bs => sp b ++ (T x ++ pl xs bs)
  | _, _ => []
def wl : List Smp → List Bool → List (List UInt8)
  | x :: xs, b :: bs => (if b = true then [[62]] else []) ++ T x :: wl xs bs
  | _, _ => []
theorem pl_snoc (x : Smp) (y : Bool) : ∀ (a : List Smp) (b : List Bool), a.length = b.length → pl (a ++ [x]) (b ++ [y]) = pl a b ++ (sp y ++ T x)
  | [], [], _ => by simp [pl]
  | [], _ :: _, h => by simp at h
  | _ :: _, [], h => by simp at h
  | x' :: a, y' :: b, h => by
    rw [List.cons_append, List.cons_append, pl, pl, pl_snoc x y a b (by simpa using h)]
    simp
theorem print_pl (x0 : Smp) (xs : List Smp) (bs : List Bool) (h : xs.length = bs.length) : ∀ k, k ≤ xs.length → printA (x0 :: xs) bs (k + 1) = T x0 ++ pl (xs.take k) (bs.take k)
  | 0, _ => by
    rw [printA, printA, sepL, if_pos rfl, List.take_zero, List.take_zero, show pl [] [] = [] from rfl]
    simp [T]
  | k + 1, hk => by
    have h1 : k < xs.length := by omega
    have h2 : k < bs.length := by omega
    rw [printA, print_pl x0 xs bs h k (by omega), List.take_succ_eq_append_getElem h1, List.take_succ_eq_append_getElem h2, pl_snoc _ _ _ _ (by simp [h])]
    have e1 : (x0 :: xs).getD (k + 1) zSmp = xs[k] := by rw [List.getD_cons_succ, List.getD, List.getElem?_eq_getElem h1]; rfl
    have e2 : sepL bs (k + 1) = sp bs[k] := by
      unfold sepL sp
      rw [if_neg (by omega), Nat.add_sub_cancel, List.getD, List.getElem?_eq_getElem h2]
      rfl
    rw [e1, e2]
    simp [T]
def G (l : List UInt8) : List UInt8 := gt (l.map lowB)
theorem G_app (a b : List UInt8) : G (a ++ b) = G a ++ G b := by unfold G; rw [List.map_append, gt_app]
theorem G_T {x : Smp} (h : mayX x = true) : G (T x) = T x := by
  have hk := (T_ok h).2
  unfold G
  rw [show (T x).map lowB = T x from (List.map_congr_left fun c hc => (okT_all (hk c hc)).2.2.1).trans (List.map_id' _)]
  exact gt_id fun c hc => (okT_all (hk c hc)).2.1
theorem wg_T {x : Smp} (h : mayX x = true) (r : List UInt8) (hr : r = [] ∨ ∃ c u, r = c :: u ∧ isB c = true) : wg [] (T x ++ r) = T x :: wg [] r := by
  obtain ⟨h1, h2⟩ := T_ok h
  rw [wg_word (fun c hc => (okT_all (h2 c hc)).1), List.nil_append]
  rcases hr with rfl | ⟨c, u, rfl, hc⟩
  · rw [wg, if_neg h1]; rfl
  · rw [wg_shut hc h1, wg_blank hc]
theorem G_pl_head (xs : List Smp) (bs : List Bool) (t : List UInt8) (ht : t = [] ∨ ∃ c u, t = c :: u ∧ isB c = true) : G (pl xs bs) ++ t = [] ∨ ∃ c u, G (pl xs bs) ++ t = c :: u ∧ isB c = true := by
  cases xs with
  | nil => exact ht
  | cons x xs =>
    cases bs with
    | nil => exact ht
    | cons b bs =>
      right
      rw [pl, G_app]
      cases b
      · exact ⟨32, _, rfl, by decide⟩
      · exact ⟨32, _, rfl, by decide⟩
theorem words_pl : ∀ (xs : List Smp) (bs : List Bool), xs.length = bs.length → (∀ x ∈ xs, mayX x = true) → ∀ t, (t = [] ∨ ∃ c u, t = c :: u ∧ isB c = true) → wg [] (G (pl xs bs) ++ t) = wl xs bs ++ wg [] t
  | [], [], _, _, t, _ => rfl
  | [], _ :: _, h, _, _, _ => by simp at h
  | _ :: _, [], h, _, _, _ => by simp at h
  | x :: xs, b :: bs, h, hm, t, ht => by
    have hx := hm x (by simp)
    have ih := words_pl xs bs (by simpa using h) (fun y hy => hm y (by simp [hy])) t ht
    have hd := G_pl_head xs bs t ht
    rw [pl, wl, G_app, G_app, G_T hx]
    have e := wg_T hx (G (pl xs bs) ++ t) hd
    rw [ih] at e
    cases b with
    | false =>
      show wg [] (32 :: (T x ++ G (pl xs bs) ++ t)) = T x :: wl xs bs ++ wg [] t
      rw [wg_blank (by decide), List.append_assoc, e]
      rfl
    | true =>
      show wg [] (32 :: 32 :: 62 :: 32 :: 32 :: (T x ++ G (pl xs bs) ++ t)) = [62] :: (T x :: wl xs bs) ++ wg [] t
      rw [wg_blank (by decide), wg_blank (by decide), wg_go (by decide), List.nil_append, wg_shut (by decide) (by simp), wg_blank (by decide), List.append_assoc, e]
      rfl
/-! ### what is printed is read as what it was -/
theorem it_m44 (x : S80) : m44 (x.f0, x.f1, x.f2, x.f3, x.f4, true) = x := rfl
theorem rdL_wl : ∀ (xs : List S80) (bs : List Bool), xs.length = bs.length → (∀ x ∈ xs, mayX (it x) = true) → ∀ ps cs, ps.length + xs.length ≤ 8 → rdL ((wl (xs.map it) bs).map ba) false false ps cs = (ps ++ xs, cs ++ bs, true)
  | [], [], _, _, ps, cs, _ => by simp [wl, rdL]
  | [], _ :: _, h, _, _, _, _ => by simp at h
  | _ :: _, [], h, _, _, _, _ => by simp at h
  | x :: xs, b :: bs, h, hm, ps, cs, hl => by
    have hx := hm x (by simp)
    have ih := rdL_wl xs bs (by simpa using h) (fun y hy => hm y (by simp [hy])) (ps ++ [x]) (cs ++ [b]) (by simp at hl ⊢; omega)
    have h62 : ¬ (ba (T (it x))).data.toList = [62] := by
      rw [ba_data]
      intro e
      have := (okT_all ((T_ok hx).2 62 (by rw [e]; simp))).2.1
      exact this rfl
    have hS : simT (ba (T (it x))) = (x.f0, x.f1, x.f2, x.f3, x.f4, true) := by
      rw [show ba (T (it x)) = textV (it x) from data_ba _]
      exact simT_text hx
    have h8 : ¬ ps.length = 8 := by simp at hl; omega
    have step : ∀ d, rdL (ba (T (it x)) :: (wl (xs.map it) bs).map ba) d false ps cs = rdL ((wl (xs.map it) bs).map ba) false false (ps ++ [x]) (cs ++ [d]) := fun d => by
      rw [rdL, if_neg h62, hS, if_pos rfl, if_neg h8, if_neg (by decide), it_m44]
    rw [List.map_cons, wl, List.map_append, List.map_cons]
    cases b with
    | false =>
      show rdL (ba (T (it x)) :: (wl (xs.map it) bs).map ba) false false ps cs = _
      rw [step, ih]
      simp
    | true =>
      show rdL (ba [62] :: ba (T (it x)) :: (wl (xs.map it) bs).map ba) false false ps cs = _
      rw [rdL, if_pos (ba_data _), if_neg (by decide), if_neg (by decide), step, ih]
      simp
theorem mayS_parts {xs : List Smp} {n : Nat} (h : mayS xs n = true) : xs ≠ [] ∧ xs.length ≤ 8 ∧ n + 1 = xs.length ∧ ∀ x ∈ xs, mayX x = true := by
  unfold mayS at h
  rw [Bool.and_eq_true, Bool.and_eq_true, Bool.and_eq_true, decide_eq_true_iff, decide_eq_true_iff, Bool.not_eq_true', Bool.not_eq_true'] at h
  obtain ⟨h1, h2, h3, h4⟩ := h
  refine ⟨by rintro rfl; simp at h1, h2, h3, fun x hx => ?_⟩
  have := List.any_eq_false.1 h4 x hx
  simpa using this
theorem print_data {x0 : Smp} {xs : List Smp} {bs : List Bool} (h : mayS (x0 :: xs) bs.length = true) : (printV (x0 :: xs) bs).data.toList = T x0 ++ pl xs bs := by
  have hl := (mayS_parts h).2.2.1
  have e := print_pl x0 xs bs (by simp at hl; omega) xs.length (Nat.le_refl _)
  rw [List.take_length, show bs.take xs.length = bs from List.take_of_length_le (by simp at hl; omega)] at e
  unfold printV
  rw [if_pos h, List.length_cons, e]
theorem words_print {x0 : Smp} {xs : List Smp} {bs : List Bool} (h : mayS (x0 :: xs) bs.length = true) : wordsR (printV (x0 :: xs) bs).data.toList = T x0 :: wl xs bs := by
  obtain ⟨_, _, hl, hm⟩ := mayS_parts h
  have hl2 : xs.length = bs.length := by simp at hl; omega
  have e := words_pl xs bs hl2 (fun y hy => hm y (by simp [hy])) [] (Or.inl rfl)
  have e2 := wg_T (hm x0 (by simp)) (G (pl xs bs) ++ []) (G_pl_head xs bs [] (Or.inl rfl))
  rw [e, List.append_nil, show wg [] [] = [] from rfl, List.append_nil] at e2
  rw [print_data h]
  show wg [] (G (T x0 ++ pl xs bs)) = _
  rw [G_app, G_T (hm x0 (by simp)), e2]
theorem read_print (xs : List S80) (bs : List Bool) (h : mayS (xs.map it) bs.length = true) : readV (printV (xs.map it) bs) = (xs, bs, true) := by
  cases xs with
  | nil => exact absurd rfl (mayS_parts h).1
  | cons x xs =>
    rw [List.map_cons] at h
    obtain ⟨_, h8, hl, hm⟩ := mayS_parts h
    have hl2 : xs.length = bs.length := by simp at hl; omega
    unfold readV
    rw [List.map_cons, words_print h, List.map_cons]
    have hx := hm (it x) (by simp)
    have h62 : ¬ (ba (T (it x))).data.toList = [62] := by
      rw [ba_data]
      intro e
      have := (okT_all ((T_ok hx).2 62 (by rw [e]; simp))).2.1
      exact this rfl
    have hS : simT (ba (T (it x))) = (x.f0, x.f1, x.f2, x.f3, x.f4, true) := by
      rw [show ba (T (it x)) = textV (it x) from data_ba _]
      exact simT_text hx
    rw [rdL, if_neg h62, hS, if_pos rfl, if_neg (by simp), if_pos rfl, it_m44, rdL_wl xs bs hl2 (fun y hy => hm (it y) (by simp; exact Or.inr ⟨y, hy, rfl⟩)) _ _ (by simp at h8 ⊢; omega)]
    simp
/-! ### what is read may be -/
theorem rdL_may : ∀ (ws : List ByteArray) (d f : Bool) (ps : List S80) (bs : List Bool), (∀ x ∈ ps, mayX (it x) = true) → ps.length ≤ 8 → (f = true → ps = [] ∧ bs = []) → (f = false → bs.length + 1 = ps.length) →
    ((rdL ws d f ps bs).2.2 = true → mayS ((rdL ws d f ps bs).1.map it) (rdL ws d f ps bs).2.1.length = true) ∧ ((rdL ws d f ps bs).2.2 = false → rdL ws d f ps bs = zr)
  | [], d, f, ps, bs, hm, h8, h1, h2 => by
    rw [rdL]
    cases f with
    | true => rw [if_pos rfl]; exact ⟨fun h => by simp [zr] at h, fun _ => rfl⟩
    | false =>
      cases d with
      | true => rw [if_neg (by decide), if_pos rfl]; exact ⟨fun h => by simp [zr] at h, fun _ => rfl⟩
      | false =>
        rw [if_neg (by decide), if_neg (by decide)]
        refine ⟨fun _ => ?_, fun h => by simp at h⟩
        have h3 := h2 rfl
        show mayS (ps.map it) bs.length = true
        unfold mayS
        rw [List.length_map]
        have e0 : (ps.length == 0) = false := by rw [beq_eq_false_iff_ne]; omega
        have e3 : ((ps.map it).any fun x => !mayX x) = false := by
          rw [List.any_eq_false]
          intro x hx
          obtain ⟨y, hy, rfl⟩ := List.mem_map.1 hx
          rw [hm y hy]; decide
        rw [e0, decide_eq_true h8, decide_eq_true h3, e3]
        rfl
  | w :: ws, d, f, ps, bs, hm, h8, h1, h2 => by
    have z : (zr.2.2 = true → mayS (zr.1.map it) zr.2.1.length = true) ∧ (zr.2.2 = false → zr = zr) := ⟨fun h => by simp [zr] at h, fun _ => rfl⟩
    rw [rdL]
    by_cases c1 : w.data.toList = [62]
    · rw [if_pos c1]
      cases d with
      | true => rw [if_pos rfl]; exact z
      | false =>
        rw [if_neg (by decide)]
        cases f with
        | true => rw [if_pos rfl]; exact z
        | false => rw [if_neg (by decide)]; exact rdL_may ws true false ps bs hm h8 h1 h2
    · rw [if_neg c1]
      by_cases c2 : (simT w).2.2.2.2.2 = true
      · rw [if_pos c2]
        by_cases c3 : ps.length = 8
        · rw [if_pos c3]; exact z
        · rw [if_neg c3]
          have hx : mayX (it (m44 (simT w))) = true := by
            have key : ∀ n o, (finT n o).2.2.2.2.2 = true → mayX (it (m44 (finT n o))) = true := by
              intro n o h
              cases o with
              | none => simp [finT, z6] at h
              | some x =>
                rw [finT] at h
                have h : (decide (n ≤ 8) && mayX x) = true := h
                rw [Bool.and_eq_true] at h
                exact h.2
            unfold simT at c2 ⊢
            split at c2
            · simp [z6] at c2
            · rename_i c t hct
              split at c2
              · rename_i hc
                rw [if_pos hc]
                exact key _ _ c2
              · rename_i hc
                rw [if_neg hc]
                exact key _ _ c2
          refine rdL_may ws false false (ps ++ [m44 (simT w)]) _ ?_ (by simp; omega) (fun h => by simp at h) (fun _ => ?_)
          · intro x hxm
            rcases List.mem_append.1 hxm with hxm | hxm
            · exact hm x hxm
            · rw [List.mem_singleton.1 hxm]; exact hx
          · cases f with
            | true => obtain ⟨rfl, rfl⟩ := h1 rfl; rfl
            | false => have := h2 rfl; simp; omega
      · rw [if_neg c2]; exact z
theorem read_may (s : ByteArray) : ((readV s).2.2 = true → mayS ((readV s).1.map it) (readV s).2.1.length = true) ∧ ((readV s).2.2 = false → readV s = zr) := rdL_may _ false true [] [] (by simp) (by simp) (fun _ => ⟨rfl, rfl⟩) (fun h => by simp at h)
theorem read_empty : readV ⟨#[]⟩ = zr := rfl
theorem print_empty {xs : List Smp} {bs : List Bool} (h : mayS xs bs.length = false) : printV xs bs = ⟨#[]⟩ := by unfold printV; rw [if_neg (by rw [h]; decide)]
end Go.Proofs.YtolfpgccebdlpaaGreatDoor.Pure
set_option linter.unusedVariables false
set_option linter.unusedSimpArgs false
namespace Go.Proofs.YtolfpgccebdlpaaGreatDoor.Shp
open Go.RowKit Go.Proofs.YtolfpgccebdlpaaGreatDoor.HT Go.Proofs.YtolfpgccebdlpaaGreatDoorW.PrintWords Go.Proofs.YtolfpgccebdlpaaGreatDoorW.PrintLast Go.Proofs.Scn Go.Proofs.Sht
abbrev DCL := S111
abbrev DCR := S123
theorem w64 {n : Int} (h1 : -9223372036854775808 ≤ n) (h2 : n ≤ 9223372036854775807) : wrap64 n = n := by unfold wrap64; omega
theorem w64s (i : Nat) (h : i < 100000000) : wrap64 ((i : Int) + 1) = ((i + 1 : Nat) : Int) := by rw [w64 (by omega) (by omega)]; omega
theorem ev_eq {α : Type} {g : Nat → Option α} {a b : α} (h : Ev g a) (e : a = b) : Ev g b := e ▸ h
theorem rdOf_at {α : Type} {d : α} {l : List α} {i : Nat} (h : i < l.length) : rdOf d l (i : Int) = l[i] := by
  unfold rdOf
  rw [Int.toNat_natCast, List.getD, List.getElem?_eq_getElem h]
  rfl
theorem spl_len (c : UInt8) : ∀ l : List UInt8, (spl c l).length ≤ l.length + 1
  | [] => by simp [spl]
  | x :: t => by
    have ih := spl_len c t
    by_cases h : x = c
    · subst h; rw [spl_hit]; simp; omega
    · obtain ⟨a, r, e⟩ := spl_ne c t
      rw [spl_step h e]
      rw [e] at ih
      simp at ih ⊢
      omega
theorem spl_mem (c : UInt8) : ∀ (l : List UInt8), ∀ p ∈ spl c l, p.length ≤ l.length
  | [], p, hp => by simp [spl] at hp; rw [hp]; simp
  | x :: t, p, hp => by
    have ih := spl_mem c t
    by_cases h : x = c
    · subst h
      rw [spl_hit] at hp
      rcases List.mem_cons.1 hp with rfl | hp
      · simp
      · have := ih p hp; simp; omega
    · obtain ⟨a, r, e⟩ := spl_ne c t
      rw [spl_step h e] at hp
      rw [e] at ih
      rcases List.mem_cons.1 hp with rfl | hp
      · have := ih a (by simp); simp; omega
      · have := ih p (by simp [hp]); simp; omega
theorem valsV_len (p : Int) (ts : List ByteArray) (im : Bool) (wh : List Nat) : ∀ (d i : Nat) (acc : List Dc), (valsV p ts im wh d i acc).length ≤ acc.length + d
  | 0, _, acc => by simp [valsV]
  | d + 1, i, acc => by
    rw [valsV]
    have h := valsV_len p ts im wh d (i + 1) (acc ++ [(p + i, (Val.readV (p + i) (ts.getD (wh.getD i 0) ByteArray.empty)).1.1, (Val.readV (p + i) (ts.getD (wh.getD i 0) ByteArray.empty)).1.2, im)])
    rw [List.length_append] at h
    simp only [List.length_cons, List.length_nil] at h
    split
    · omega
    · simp
theorem declV_len (s : ByteArray) : (declV s).length ≤ 4 := by
  have hm : ∀ n, (propsV n).2.toNat ≤ 4 := fun n => by
    unfold propsV
    repeat (first | (split; exact by decide) | exact by decide | (show (1 : Int).toNat ≤ 4; decide))
  unfold declV
  dsimp only
  split
  · split
    · exact Nat.le_trans (valsV_len _ _ _ _ _ _ _) (by have := hm (lowV (trimV (ba (Lib.cut s.data.toList [58]).1))); simp; omega)
    · simp
  · simp
theorem rDecls_l (P : List ByteArray) (hP : P.length ≤ 100000) (hs : ∀ p ∈ P, p.size ≤ 30000) : ∀ (d n : Nat) (acc : List DCL), n + d = P.length → acc.length ≤ 4 * n → Ev (fun k => sheet_Decls.l0 k acc P (P.length : Int) (n : Int)) (acc ++ (P.drop n).flatMap fun p => (declV p).map sheet_decls.it)
  | 0, n, acc, h, ha => by
    obtain rfl : n = P.length := by omega
    rw [List.drop_length, List.flatMap_nil, List.append_nil]
    exact Ev.step (f := fun k => some acc) (fun k => by rw [sheet_Decls.l0, if_neg (by omega)]) (Ev.now _)
  | d + 1, n, acc, h, ha => by
    have hn : n < P.length := by omega
    rw [List.drop_eq_getElem_cons hn, List.flatMap_cons]
    have hz := hs _ (List.getElem_mem hn)
    have hl := declV_len P[n]
    refine Ev.step (f := fun k => sheet_Decls.l0 k (acc ++ (declV P[n]).map sheet_decls.it) P (P.length : Int) ((n + 1 : Nat) : Int)) (fun k => ?_) (ev_eq (rDecls_l P hP hs d (n + 1) (acc ++ (declV P[n]).map sheet_decls.it) (by omega) (by rw [List.length_append, List.length_map]; omega)) (by rw [List.append_assoc]))
    rw [sheet_Decls.l0, if_pos (by omega), if_pos (by omega), if_pos (by omega), rdOf_at hn, sheet_decls.f, if_pos (by omega), Option.bind_some, if_pos (by rw [List.length_map]; omega), w64s n (by omega)]
theorem rDecls (s : ByteArray) (hs : s.size ≤ 30000) : Ev (fun k => sheet_Decls.f k s) ((declsV s).map sheet_decls.it) := by
  have h1 := spl_len 59 s.data.toList
  rw [← Lib.size_eq] at h1
  refine Ev.congr (f := fun k => sheet_Decls.l0 k [] ((spl 59 s.data.toList).map fun l => ba (trimL l)) (((spl 59 s.data.toList).map fun l => ba (trimL l)).length : Int) ((0 : Nat) : Int)) (fun k => ?_) (ev_eq (rDecls_l _ (by rw [List.length_map]; omega) ?_ ((spl 59 s.data.toList).map fun l => ba (trimL l)).length 0 [] (Nat.zero_add _) (by simp)) ?_)
  · rw [sheet_Decls.f, scan_Split.f, if_pos (by omega), show UInt8.ofNat (59 : Int).toNat = 59 by decide, splitV_eq, Option.bind_some]
    rfl
  · intro p hp
    obtain ⟨q, hq, rfl⟩ := List.mem_map.1 hp
    have a := spl_mem 59 _ q hq
    have b := trim_len q
    rw [Lib.size_eq, ba_data]
    rw [← Lib.size_eq] at a
    omega
  · rw [List.drop_zero, List.nil_append]
    unfold declsV
    rw [List.map_flatMap, List.flatMap_map]
    rfl
theorem declsV_len (s : ByteArray) : (declsV s).length ≤ 4 * (s.size + 1) := by
  have h1 := spl_len 59 s.data.toList
  rw [← Lib.size_eq] at h1
  have h2 : ∀ l : List (List UInt8), (l.flatMap partD).length ≤ 4 * l.length := fun l => by
    induction l with
    | nil => simp
    | cons x l ih =>
      have := declV_len (ba (trimL x))
      rw [List.flatMap_cons, List.length_append, List.length_cons]
      unfold partD at ih ⊢
      omega
  have := h2 (spl 59 s.data.toList)
  unfold declsV
  omega
/-! ### the law's own declarations, and whether they are the same -/
def conv (x : DCL) : DCR := ⟨x.f0, ⟨x.f1.f0, x.f1.f1⟩, x.f2⟩
theorem awake : Ev (fun k => scrimlaw10_awake.f k) true := Ev.of (fun k => scrimlaw10_awake.mono k) (k := 60) (by decide +kernel)
end Go.Proofs.YtolfpgccebdlpaaGreatDoor.Shp
set_option linter.unusedVariables false
set_option linter.unusedSimpArgs false
namespace Go.Proofs.YtolfpgccebdlpaaGreatDoor.Pure
open Go.RowKit Go.Proofs.YtolfpgccebdlpaaGreatDoor.HT Go.Proofs.YtolfpgccebdlpaaGreatDoor.Shp Go.Proofs.YtolfpgccebdlpaaGreatDoorW.PrintWords Go.Proofs.YtolfpgccebdlpaaGreatDoorW.PrintLast Go.Proofs.YtolfpgccebdlpaaGreatDoorW.PrintMore Go.Proofs.Scn Go.Proofs.Tok
abbrev SEL := S25
/-! ### List -/
def listL : List ByteArray → List SEL → List SEL × Bool
  | [], acc => (acc, true)
  | p :: r, acc => if (readV p).2.2 = true then listL r (acc ++ [⟨(readV p).1, (readV p).2.1⟩]) else ([], false)
theorem rList_l (P : List ByteArray) (hP : P.length ≤ 100000) (hs : ∀ p ∈ P, p.size ≤ 30000) : ∀ (d n : Nat) (acc : List SEL), n + d = P.length → acc.length ≤ n → Ev (fun k => selector_List.l0 k acc P (P.length : Int) (n : Int)) (listL (P.drop n) acc)
  | 0, n, acc, h, ha => by
    obtain rfl : n = P.length := by omega
    rw [List.drop_length]
    exact Ev.step (f := fun k => some (acc, true)) (fun k => by rw [selector_List.l0, if_neg (by omega)]) (Ev.now _)
  | d + 1, n, acc, h, ha => by
    have hn : n < P.length := by omega
    rw [List.drop_eq_getElem_cons hn, listL]
    have hR := rRead P[n] (hs _ (List.getElem_mem hn))
    generalize readV P[n] = r at hR ⊢
    refine Ev.step (f := fun k => (selector_Read.f k P[n]).bind fun bt168 => (if bt168.2.2 = true then (if acc.length < 2932031007402 then (selector_List.l0 k (acc ++ [(⟨bt168.1, bt168.2.1⟩ : SEL)]) P (P.length : Int) (wrap64 ((n : Int) + 1))) else (none)) else (some (([] : List SEL), false)))) (fun k => by rw [selector_List.l0, if_pos (by omega), if_pos (by omega), if_pos (by omega), rdOf_at hn]) ?_
    refine Ev.bind hR ?_
    by_cases c : r.2.2 = true
    · simp only [if_pos c, if_pos (show acc.length < 2932031007402 by omega), w64s n (by omega)]
      exact rList_l P hP hs d (n + 1) _ (by omega) (by simp; omega)
    · simp only [if_neg c]
      exact Ev.now _
theorem rList (s : ByteArray) (hs : s.size ≤ 30000) : Ev (fun k => selector_List.f k s) (listL ((spl 44 s.data.toList).map fun l => ba (trimL l)) []) := by
  have h1 := spl_len 44 s.data.toList
  rw [← sz] at h1
  refine Ev.congr (f := fun k => selector_List.l0 k [] ((spl 44 s.data.toList).map fun l => ba (trimL l)) (((spl 44 s.data.toList).map fun l => ba (trimL l)).length : Int) ((0 : Nat) : Int)) (fun k => ?_) ((rList_l _ (by rw [List.length_map]; omega) ?_ ((spl 44 s.data.toList).map fun l => ba (trimL l)).length 0 [] (Nat.zero_add _) (by simp)).eq (by rw [List.drop_zero]))
  · rw [selector_List.f, scan_Split.f, if_pos (by omega), show UInt8.ofNat (44 : Int).toNat = 44 by decide, splitV_eq, Option.bind_some]
    rfl
  · intro p hp
    obtain ⟨q, hq, rfl⟩ := List.mem_map.1 hp
    have a := spl_mem 44 _ q hq
    have b := trim_len q
    rw [sz, ba_data]
    rw [← sz] at a
    omega
/-! ### printed texts between commas -/
def PL (x : SEL) : List UInt8 := (printV (x.f0.map it) x.f1).data.toList
def mayB (x : SEL) : Bool := mayS (x.f0.map it) x.f1.length
theorem ba_PL (x : SEL) : ba (PL x) = printV (x.f0.map it) x.f1 := data_ba _
theorem pl_chars : ∀ (xs : List Smp) (bs : List Bool), (∀ x ∈ xs, mayX x = true) → ∀ c ∈ pl xs bs, c ≠ 44
  | [], bs, _, c, hc => by simp [pl] at hc
  | x :: xs, [], _, c, hc => by simp [pl] at hc
  | x :: xs, b :: bs, h, c, hc => by
    rw [pl] at hc
    rcases List.mem_append.1 hc with hc | hc
    · cases b
      · have : c = 32 := by simpa [sp] using hc
        rw [this]; decide
      · have : c = 32 ∨ c = 62 := by
          have : c = 32 ∨ c = 62 ∨ c = 32 := by simpa [sp] using hc
          rcases this with h | h | h
          · exact Or.inl h
          · exact Or.inr h
          · exact Or.inl h
        rcases this with rfl | rfl <;> decide
    · rcases List.mem_append.1 hc with hc | hc
      · exact (okT_all ((T_ok (h x (by simp))).2 c hc)).2.2.2
      · exact pl_chars xs bs (fun y hy => h y (by simp [hy])) c hc
theorem pl_last : ∀ (xs : List Smp) (bs : List Bool), (∀ x ∈ xs, mayX x = true) → ∀ x0, mayX x0 = true → ∀ c, (T x0 ++ pl xs bs).getLast? = some c → isB c = false
  | [], bs, _, x0, h0, c, hc => by
    rw [show pl [] bs = [] by cases bs <;> rfl, List.append_nil] at hc
    exact (okT_all ((T_ok h0).2 c (List.mem_of_getLast? hc))).1
  | x :: xs, [], h, x0, h0, c, hc => by
    rw [show pl (x :: xs) [] = [] from rfl, List.append_nil] at hc
    exact (okT_all ((T_ok h0).2 c (List.mem_of_getLast? hc))).1
  | x :: xs, b :: bs, h, x0, h0, c, hc => by
    have hx := h x (by simp)
    have hne : T x ++ pl xs bs ≠ [] := by
      intro e
      exact (T_ok hx).1 (List.append_eq_nil_iff.1 e).1
    rw [pl, ← List.append_assoc, List.getLast?_append] at hc
    cases hq : (T x ++ pl xs bs).getLast? with
    | none => exact absurd (List.getLast?_eq_none_iff.1 hq) hne
    | some d =>
      rw [hq] at hc
      have hc : d = c := by simpa using hc
      subst hc
      exact pl_last xs bs (fun y hy => h y (by simp [hy])) x hx d hq
theorem PL_ok (x : SEL) : 44 ∉ PL x ∧ trimL (PL x) = PL x := by
  unfold PL
  cases h : mayS (x.f0.map it) x.f1.length with
  | false => rw [print_empty h]; exact ⟨by simp, rfl⟩
  | true =>
    cases hx : x.f0.map it with
    | nil => rw [hx] at h; exact absurd rfl (mayS_parts h).1
    | cons y ys =>
      rw [hx] at h
      obtain ⟨_, _, _, hm⟩ := mayS_parts h
      rw [print_data h]
      have hy := hm y (by simp)
      have hys : ∀ z ∈ ys, mayX z = true := fun z hz => hm z (by simp [hz])
      constructor
      · intro hc
        rcases List.mem_append.1 hc with hc | hc
        · exact (okT_all ((T_ok hy).2 44 hc)).2.2.2 rfl
        · exact pl_chars ys x.f1 hys 44 hc rfl
      · apply trim_tidy
        constructor
        · intro c hc
          obtain ⟨a, r, hT⟩ := List.exists_cons_of_ne_nil (T_ok hy).1
          rw [hT] at hc
          have hc : a = c := by simpa using hc
          subst hc
          exact (okT_all ((T_ok hy).2 a (by rw [hT]; simp))).1
        · intro c hc
          exact pl_last ys x.f1 hys y hy c hc
theorem listL_all : ∀ (l acc : List SEL), listL (l.map fun x => ba (PL x)) acc = if l.all mayB = true then (acc ++ l, true) else ([], false)
  | [], acc => by simp [listL]
  | x :: l, acc => by
    rw [List.map_cons, listL, ba_PL, List.all_cons]
    cases h : mayB x with
    | true =>
      rw [read_print x.f0 x.f1 h, if_pos rfl, listL_all l, Bool.true_and]
      simp
    | false =>
      rw [print_empty h, read_empty, if_neg (by decide)]
      rfl
/-! ### blocks -/
theorem trimV_eq {s : ByteArray} {l : List UInt8} (h : s.data.toList = l) : trimV s = ba (trimL l) := by rw [trimV_ba, h]
def mkBl (p : List UInt8 × List UInt8) : S119 := ⟨ba (trimL p.1), ba (trimL p.2)⟩
theorem iAnyB (s : ByteArray) (h : s.size ≤ 1000000) : strings_IndexAny.f s ⟨#[123, 125]⟩ = some (Lib.indexAny s.data.toList [123, 125]) := by
  unfold strings_IndexAny.f
  rw [if_pos (by omega), if_pos (by decide), if_pos (by decide), if_pos (by decide)]
theorem iCut (s : ByteArray) (h : s.size ≤ 1000000) : strings_Cut.f s ⟨#[125]⟩ = some (ba (Lib.cut s.data.toList [125]).1, ba (Lib.cut s.data.toList [125]).2.1, (Lib.cut s.data.toList [125]).2.2) := by
  unfold strings_Cut.f
  rw [if_pos (by omega), if_pos (by decide)]
  rfl
theorem iTrim (s : ByteArray) (h : s.size ≤ 1000000) : scan_Trim.f s = some (trimV s) := by
  unfold scan_Trim.f
  rw [if_pos (by omega)]
theorem gBlocks : ∀ (n : Nat) (s : ByteArray) (x3 : List S119), s.size ≤ n → n ≤ 100000 → x3.length + n ≤ 1000000 → Ev (fun k => scan_Blocks.l0 k s x3) (x3 ++ (bgo none [] s.data.toList).map mkBl)
  | n, s, x3, hn, hm, hx => by
    rcases any_spec [123, 125] s.data.toList with ⟨h1, h2⟩ | ⟨p, b, t, h1, h2, h3, h4⟩
    · have hnone : bgo none [] s.data.toList = [] := by
        have := bgo_none_app (t := []) (p := s.data.toList) (cur := []) (fun c hc => by
          have := h2 c hc
          simp at this
          exact this)
        rw [List.append_nil] at this
        rw [this, bgo_nil]
      refine Ev.step (f := fun k => some x3) (fun k => by rw [scan_Blocks.l0, iAnyB s (by omega), h1, Option.bind_some, if_pos (by decide)]) ?_
      exact (Ev.now _).eq (by rw [hnone]; simp)
    · have hp : ∀ c ∈ p, c ≠ 123 ∧ c ≠ 125 := fun c hc => by
        have := h2 c hc
        simp at this
        exact this
      have hd : s.data.toList.drop p.length = b :: t := by rw [h1, List.drop_left]
      obtain ⟨g1, g2, g3⟩ := drop_at hd
      have hx2 : (s.extract (p.length + 1) s.size).data.toList = t := by rw [ext_to]; exact g3
      have hlen : s.size = p.length + (t.length + 1) := by rw [sz, h1]; simp
      cases n with
      | zero => omega
      | succ n =>
        have hxs : (s.extract (p.length + 1) s.size).size ≤ n := by rw [sz, hx2]; omega
        have hb : b = 123 ∨ b = 125 := by simpa using h3
        rcases hb with rfl | rfl
        · refine Ev.step (f := fun k => (strings_Cut.f (s.extract (p.length + 1) s.size) (⟨#[125]⟩ : ByteArray)).bind fun bt102 => (if bt102.2.2 = true then (if (p.length : Int) ≤ (s.size : Int) then ((scan_Trim.f (s.extract 0 (p.length : Int).toNat)).bind fun t105 => ((scan_Trim.f bt102.1).bind fun t106 => (if x3.length < 4398046511104 then (scan_Blocks.l0 k bt102.2.1 (x3 ++ [(⟨t105, t106⟩ : S119)])) else (none)))) else (none)) else (some x3))) (fun k => ?_) ?_
          · rw [scan_Blocks.l0, iAnyB s (by omega), h4, Option.bind_some, if_neg (by omega), if_pos (by omega), if_pos (by omega), g2, if_neg (by decide), w64s p.length (by omega), if_pos (by omega), if_pos (by omega), Int.toNat_natCast]
          · rw [iCut _ (by omega), hx2]
            simp only [Option.bind_some]
            rcases cut_spec 125 t with ⟨c1, c2⟩ | ⟨q, u, c1, c2, c3⟩
            · rw [c1]
              simp only [Bool.false_eq_true, if_false]
              refine (Ev.now _).eq ?_
              have e2 := bgo_some_app (hd := p) (t := []) (p := t) (cur := []) (fun c hc e => c2 (e ▸ hc))
              rw [List.append_nil] at e2
              rw [h1, bgo_none_app hp, bgo_open, List.nil_append, e2, bgo_nil]
              simp
            · rw [c3]
              have hxa : (s.extract 0 p.length).data.toList = p := by rw [ext_data, List.drop_zero, Nat.sub_zero, h1, List.take_left]
              have hul : u.length + q.length + 1 = t.length := by rw [c1]; simp; omega
              simp only [if_true, if_pos (show (p.length : Int) ≤ (s.size : Int) by omega), Int.toNat_natCast]
              rw [iTrim _ (by rw [sz, hxa]; omega), iTrim _ (by rw [sz, ba_data]; omega)]
              simp only [Option.bind_some, if_pos (show x3.length < 4398046511104 by omega)]
              rw [trimV_eq hxa, trimV_eq (ba_data q)]
              have ih := gBlocks n (ba u) (x3 ++ [mkBl (p, q)]) (by rw [sz, ba_data]; omega) (by omega) (by simp; omega)
              refine Ev.eq ih ?_
              rw [ba_data, h1, bgo_none_app hp, bgo_open, List.nil_append, c1, bgo_some_app (fun c hc e => c2 (e ▸ hc)), bgo_shut]
              simp
        · refine Ev.step (f := fun k => scan_Blocks.l0 k (s.extract (p.length + 1) s.size) x3) (fun k => ?_) ((gBlocks n (s.extract (p.length + 1) s.size) x3 hxs (by omega) (by omega)).eq ?_)
          · rw [scan_Blocks.l0, iAnyB s (by omega), h4, Option.bind_some, if_neg (by omega), if_pos (by omega), if_pos (by omega), g2, if_pos (by decide), w64s p.length (by omega), if_pos (by omega), if_pos (by omega), Int.toNat_natCast]
          · rw [hx2, h1, bgo_none_app hp, bgo_reset]
theorem bgo_len : ∀ (l : List UInt8) (o : Option (List UInt8)) (cur : List UInt8), (bgo o cur l).length ≤ l.length
  | [], o, cur => by rw [bgo_nil]; simp
  | c :: t, none, cur => by
    have i1 := bgo_len t (some cur) []
    have i2 := bgo_len t none []
    have i3 := bgo_len t none (cur ++ [c])
    unfold bgo
    split
    · simp; omega
    · split <;> simp <;> omega
  | c :: t, some h, cur => by
    have i2 := bgo_len t none []
    have i3 := bgo_len t (some h) (cur ++ [c])
    unfold bgo
    split <;> simp <;> omega
theorem gBlocks0 (s : ByteArray) (hs : s.size ≤ 100000) : Ev (fun k => scan_Blocks.f k s) ((bgo none [] s.data.toList).map mkBl) := Ev.eq (gBlocks s.size s [] (Nat.le_refl _) hs (by simp; omega)) (by simp)
theorem rd119 (bs : List (List UInt8 × List UInt8)) {i : Nat} (h : i < bs.length) : rd_T119 (bs.map mkBl) (i : Int) = mkBl bs[i] := by
  unfold rd_T119
  rw [Int.toNat_natCast, List.getD, List.getElem?_map, List.getElem?_eq_getElem h]
  rfl
/-! ### Read -/
abbrev RUL := S115
def ruleB (p : List UInt8 × List UInt8) : List RUL := if (listL ((spl 44 (trimL p.1)).map fun q => ba (trimL q)) []).2 = true then [⟨(listL ((spl 44 (trimL p.1)).map fun q => ba (trimL q)) []).1, (Sht.declsV (ba (trimL p.2))).map sheet_decls.it⟩] else []
def rulesOf (bs : List (List UInt8 × List UInt8)) : List RUL := bs.flatMap ruleB
def fullF (l : List RUL) : List RUL × Int := if 40 < l.length then ([], 3) else (l, 0)
def readF (s : ByteArray) : List RUL × Int := if 4000 < s.size then ([], 3) else fullF (rulesOf (bgo none [] (scn false s.data.toList)))
theorem bgo_mem : ∀ (l : List UInt8) (o : Option (List UInt8)) (cur : List UInt8), ∀ p ∈ bgo o cur l, p.1.length ≤ (o.getD []).length + cur.length + l.length ∧ p.2.length ≤ (o.getD []).length + cur.length + l.length
  | [], o, cur, p, hp => by rw [bgo_nil] at hp; cases hp
  | c :: t, none, cur, p, hp => by
    unfold bgo at hp
    have i1 := bgo_mem t (some cur) [] p
    have i2 := bgo_mem t none [] p
    have i3 := bgo_mem t none (cur ++ [c]) p
    simp only [Option.getD_none, Option.getD_some, List.length_nil, List.length_append, List.length_cons] at i1 i2 i3 ⊢
    split at hp
    · have := i1 hp; omega
    · split at hp
      · have := i2 hp; omega
      · have := i3 hp; omega
  | c :: t, some h, cur, p, hp => by
    unfold bgo at hp
    have i2 := bgo_mem t none [] p
    have i3 := bgo_mem t (some h) (cur ++ [c]) p
    simp only [Option.getD_none, Option.getD_some, List.length_nil, List.length_append, List.length_cons] at i2 i3 ⊢
    split at hp
    · rcases List.mem_cons.1 hp with rfl | hp
      · dsimp only; omega
      · have := i2 hp; omega
    · have := i3 hp; omega
theorem stripV_size (s : ByteArray) : (stripV s).size ≤ s.size := by
  have := scn_len s.size false s.data.toList (by rw [sz]; exact Nat.le_refl _)
  rw [← stripV_data, ← sz, ← sz] at this
  exact this
theorem rules_l (bs : List (List UInt8 × List UInt8)) (hb : bs.length ≤ 100000) (hs : ∀ p ∈ bs, p.1.length ≤ 30000 ∧ p.2.length ≤ 30000) : ∀ (d n : Nat) (acc : List RUL), n + d = bs.length → acc.length ≤ n → Ev (fun k => sheet_Read.l0 k acc (bs.map mkBl) ((bs.map mkBl).length : Int) (n : Int)) (fullF (acc ++ rulesOf (bs.drop n)))
  | 0, n, acc, h, ha => by
    obtain rfl : n = bs.length := by omega
    rw [List.drop_length, show rulesOf [] = [] from rfl, List.append_nil]
    unfold fullF
    by_cases c : 40 < acc.length
    · refine Ev.step (f := fun k => some (([] : List RUL), (3 : Int))) (fun k => by rw [sheet_Read.l0, if_neg (by rw [List.length_map]; omega), if_pos (by omega)]) ?_
      rw [if_pos c]
      exact Ev.now _
    · refine Ev.step (f := fun k => some (acc, (0 : Int))) (fun k => by rw [sheet_Read.l0, if_neg (by rw [List.length_map]; omega), if_neg (by omega)]) ?_
      rw [if_neg c]
      exact Ev.now _
  | d + 1, n, acc, h, ha => by
    have hn : n < bs.length := by omega
    obtain ⟨z1, z2⟩ := hs _ (List.getElem_mem hn)
    have q1 := trim_len bs[n].1
    have q2 := trim_len bs[n].2
    have hL := rList (ba (trimL bs[n].1)) (by rw [sz, ba_data]; omega)
    have hD := rDecls (ba (trimL bs[n].2)) (by rw [sz, ba_data]; omega)
    rw [ba_data] at hL
    rw [List.drop_eq_getElem_cons hn, show rulesOf (bs[n] :: bs.drop (n + 1)) = ruleB bs[n] ++ rulesOf (bs.drop (n + 1)) from List.flatMap_cons, ← List.append_assoc]
    have hB : ruleB bs[n] = if (listL ((spl 44 (trimL bs[n].1)).map fun q => ba (trimL q)) []).2 = true then [⟨(listL ((spl 44 (trimL bs[n].1)).map fun q => ba (trimL q)) []).1, (Sht.declsV (ba (trimL bs[n].2))).map sheet_decls.it⟩] else [] := rfl
    refine Ev.step (f := fun k => (selector_List.f k (ba (trimL bs[n].1))).bind fun b => (if b.2 = true then ((sheet_Decls.f k (ba (trimL bs[n].2))).bind fun t => (if acc.length < 2932031007402 then (sheet_Read.l0 k (acc ++ [(⟨b.1, t⟩ : RUL)]) (bs.map mkBl) ((bs.map mkBl).length : Int) (wrap64 ((n : Int) + 1))) else (none))) else (sheet_Read.l0 k acc (bs.map mkBl) ((bs.map mkBl).length : Int) (wrap64 ((n : Int) + 1))))) (fun k => by rw [sheet_Read.l0, if_pos (by rw [List.length_map]; omega), if_pos (by omega), if_pos (by rw [List.length_map]; omega), rd119 bs hn]; rfl) ?_
    refine Ev.bind hL ?_
    generalize listL ((spl 44 (trimL bs[n].1)).map fun q => ba (trimL q)) [] = L at hB ⊢
    by_cases c : L.2 = true
    · rw [if_pos c] at hB
      simp only [if_pos c]
      refine Ev.bind hD ?_
      simp only [if_pos (show acc.length < 2932031007402 by omega), w64s n (by omega)]
      rw [hB]
      exact rules_l bs hb hs d (n + 1) _ (by omega) (by simp; omega)
    · rw [if_neg c] at hB
      simp only [if_neg c, w64s n (by omega)]
      rw [hB, List.append_nil]
      exact rules_l bs hb hs d (n + 1) _ (by omega) (by omega)
theorem rReadS (s : ByteArray) (hs : s.size ≤ 140737488355328) : Ev (fun k => sheet_Read.f k s) (readF s) := by
  unfold readF sheet_Read.f
  by_cases c : 4000 < s.size
  · simp only [if_pos c, if_pos (show (s.size : Int) > 4000 by omega)]
    exact Ev.now _
  · have h1 := stripV_size s
    have h2 := gBlocks0 (stripV s) (by omega)
    have h3 := bgo_len (stripV s).data.toList none []
    have h4 := bgo_mem (stripV s).data.toList none []
    rw [stripV_data] at h2 h3 h4
    have h5 := sz (stripV s)
    rw [stripV_data] at h5
    simp only [if_neg c, if_neg (show ¬ ((s.size : Int) > 4000) by omega)]
    rw [show scan_Strip.f s = some (stripV s) by unfold scan_Strip.f; rw [if_pos (by omega)]]
    simp only [Option.bind_some]
    refine Ev.bind h2 ?_
    have hh := rules_l (bgo none [] (scn false s.data.toList)) (by omega) (fun p hp => by
      have := h4 p hp
      simp only [Option.getD_none, List.length_nil] at this
      omega) (bgo none [] (scn false s.data.toList)).length 0 [] (Nat.zero_add _) (by simp)
    rw [List.drop_zero, List.nil_append] at hh
    exact hh
end Go.Proofs.YtolfpgccebdlpaaGreatDoor.Pure
set_option linter.unusedVariables false
set_option linter.unusedSimpArgs false
namespace Go.Proofs.Sht
open Go Go.Lib Go.Proofs.Scn Go.Proofs.Tok
theorem scn_app : ∀ (p t : List UInt8), (47 : UInt8) ∉ p → scn false (p ++ t) = p ++ scn false t
  | [], t, _ => rfl
  | c :: p, t, h => by
    rw [List.cons_append, scn_go (fun e => h (by rw [e.1]; simp)), scn_app p t (fun hh => h (by simp [hh]))]
    rfl
def mkB (x : List UInt8 × List UInt8) : List UInt8 × List UInt8 := (trimL x.1, trimL x.2)
theorem nl_some : ∀ (t h b : List UInt8), (bgo (some (10 :: h)) b t).map mkB = (bgo (some h) b t).map mkB
  | [], h, b => by rw [bgo_nil, bgo_nil]
  | c :: t, h, b => by
    by_cases hc : c = 125
    · subst hc
      rw [bgo_shut, bgo_shut, List.map_cons, List.map_cons]
      congr 1
      unfold mkB
      rw [trim_cons (c := 10) rfl]
    · rw [bgo_some hc, bgo_some hc, nl_some t h (b ++ [c])]
theorem nl_none : ∀ (t cur : List UInt8), (bgo none (10 :: cur) t).map mkB = (bgo none cur t).map mkB
  | [], cur => by rw [bgo_nil, bgo_nil]
  | c :: t, cur => by
    by_cases h1 : c = 123
    · subst h1
      rw [bgo_open, bgo_open, nl_some]
    · by_cases h2 : c = 125
      · subst h2
        rw [bgo_reset, bgo_reset]
      · rw [bgo_none h1 h2, bgo_none h1 h2, List.cons_append, nl_none t (cur ++ [c])]
theorem bgo_piece {H B t : List UInt8} (h : ∀ c ∈ H, c ≠ 123 ∧ c ≠ 125) (b : ∀ c ∈ B, c ≠ 125) : bgo none [] (H ++ 123 :: (B ++ 125 :: t)) = (H, B) :: bgo none [] t := by
  rw [bgo_none_app h, bgo_open, List.nil_append, bgo_some_app b, bgo_shut, List.nil_append]
/-- no brace in the printed selectors, no closing one in the declarations, no slash in either -/
def okR (r : Rl) : Prop := (∀ c ∈ selsN r.1 r.1.length, c ≠ 123 ∧ c ≠ 125 ∧ c ≠ 47) ∧ ∀ c ∈ r.2.flatMap declL, c ≠ 125 ∧ c ≠ 47
theorem rule_split (r : Rl) (t : List UInt8) : ruleL r ++ t = (selsN r.1 r.1.length ++ [32]) ++ 123 :: ((r.2.flatMap declL ++ [32]) ++ 125 :: (10 :: t)) := by
  unfold ruleL
  simp
theorem blocks_rules : ∀ (l : List Rl), (∀ r ∈ l, okR r) → ∀ t, (bgo none [] (l.flatMap ruleL ++ t)).map mkB = (l.map fun r => mkB (selsN r.1 r.1.length ++ [32], r.2.flatMap declL ++ [32])) ++ (bgo none [] t).map mkB
  | [], _, t => rfl
  | r :: l, h, t => by
    obtain ⟨h1, h2⟩ := h r (by simp)
    have a : ∀ c ∈ selsN r.1 r.1.length ++ [32], c ≠ 123 ∧ c ≠ 125 := fun c hc => by
      rcases List.mem_append.1 hc with hc | hc
      · exact ⟨(h1 c hc).1, (h1 c hc).2.1⟩
      · rw [List.mem_singleton] at hc
        subst hc
        decide
    have b : ∀ c ∈ r.2.flatMap declL ++ [32], c ≠ 125 := fun c hc => by
      rcases List.mem_append.1 hc with hc | hc
      · exact (h2 c hc).1
      · rw [List.mem_singleton] at hc
        subst hc
        decide
    rw [List.flatMap_cons, List.append_assoc, rule_split, bgo_piece a b, List.map_cons, List.map_cons, List.cons_append]
    congr 1
    have hn : bgo none [] (10 :: (l.flatMap ruleL ++ t)) = bgo none [10] (l.flatMap ruleL ++ t) := by rw [bgo_none (by decide) (by decide)]; rfl
    rw [hn, nl_none, blocks_rules l (fun x hx => h x (by simp [hx])) t]
theorem rules_47 (l : List Rl) (h : ∀ r ∈ l, okR r) : (47 : UInt8) ∉ l.flatMap ruleL := by
  intro hm
  obtain ⟨r, hr, hc⟩ := List.mem_flatMap.1 hm
  obtain ⟨h1, h2⟩ := h r hr
  unfold ruleL at hc
  rcases List.mem_append.1 hc with hc | hc
  · exact (h1 _ hc).2.2 rfl
  · simp only [List.mem_cons, List.mem_append, List.not_mem_nil, or_false] at hc
    rcases hc with hc | hc | hc | hc | hc | hc
    · exact absurd hc (by decide)
    · exact absurd hc (by decide)
    · obtain ⟨d, hd, hdc⟩ := List.mem_flatMap.1 hc
      exact (h2 47 (List.mem_flatMap.2 ⟨d, hd, hdc⟩)).2 rfl
    · exact absurd hc (by decide)
    · exact absurd hc (by decide)
    · exact absurd hc (by decide)
/-- what is stripped and parted: the rules' own blocks, then the text's -/
theorem blocks_joined (l : List Rl) (h : ∀ r ∈ l, okR r) (s : List UInt8) : (bgo none [] (scn false (l.flatMap ruleL ++ s))).map mkB = (l.map fun r => mkB (selsN r.1 r.1.length ++ [32], r.2.flatMap declL ++ [32])) ++ (bgo none [] (scn false s)).map mkB := by
  rw [scn_app _ _ (rules_47 l h), blocks_rules l h]
end Go.Proofs.Sht
set_option linter.unusedVariables false
set_option linter.unusedSimpArgs false
namespace Go.Proofs.Sht
open Go Go.Lib Go.Proofs.Scn
end Go.Proofs.Sht
set_option linter.unusedVariables false
set_option linter.unusedSimpArgs false
namespace Go.Proofs.Sht
open Go Go.Lib Go.Proofs.Scn
/-! ### the short name -/
theorem first_eq {c : UInt8} : ∀ {p q t u : List UInt8}, c ∉ p → c ∉ q → p ++ c :: t = q ++ c :: u → p = q ∧ t = u
  | [], [], t, u, _, _, h => by simpa using h
  | [], b :: q, t, u, _, h2, h => by
    rw [List.nil_append, List.cons_append] at h
    exact absurd (List.cons.inj h).1 (fun e => h2 (by rw [e]; simp))
  | a :: p, [], t, u, h1, _, h => by
    rw [List.nil_append, List.cons_append] at h
    exact absurd (List.cons.inj h).1 (fun e => h1 (by rw [e]; simp))
  | a :: p, b :: q, t, u, h1, h2, h => by
    rw [List.cons_append, List.cons_append] at h
    obtain ⟨e1, e2⟩ := List.cons.inj h
    obtain ⟨e3, e4⟩ := first_eq (fun hh => h1 (by simp [hh])) (fun hh => h2 (by simp [hh])) e2
    exact ⟨by rw [e1, e3], e4⟩
theorem cut_first {c : UInt8} {p t : List UInt8} (h : c ∉ p) : Lib.cut (p ++ c :: t) [c] = (p, t, true) := by
  rcases cut_spec c (p ++ c :: t) with ⟨_, h2⟩ | ⟨q, u, h1, h2, h3⟩
  · exact absurd (by simp) h2
  · obtain ⟨rfl, rfl⟩ := first_eq h h2 h1
    exact h3
end Go.Proofs.Sht
set_option linter.unusedVariables false
set_option linter.unusedSimpArgs false
namespace Go.Proofs.Sht
open Go Go.Lib Go.Proofs.Scn
/-- a byte of a value's text -/
def niceB (c : UInt8) : Bool := Val.plainB c && (c != 33) && (c != 47) && (c != 58) && (c != 59) && (c != 123) && (c != 125)
theorem nice_dig {c : UInt8} (h : Val.isDig c = true) : niceB c = true := by
  have : ∀ i : Fin 10, niceB (UInt8.ofNat (48 + i.val)) = true := by decide +kernel
  rw [Val.isDig_iff] at h
  have hc := this ⟨c.toNat - 48, by omega⟩
  have e : UInt8.ofNat (48 + (c.toNat - 48)) = c := by rw [show 48 + (c.toNat - 48) = c.toNat by omega]; simp
  rwa [e] at hc
theorem nice_decL (n : Int) : ∀ c ∈ Val.decL n, niceB c = true := fun c hc => by
  rcases Val.decL_in n c hc with rfl | rfl | h
  · decide
  · decide
  · exact nice_dig h
theorem nice_hex (n : Nat) : ∀ c ∈ Val.hexL n, niceB c = true := by
  have q : ∀ i : Fin 16, niceB (Val.hexD i.val) = true := by decide +kernel
  have q2 := fun m : Nat => q ⟨m % 16, by omega⟩
  intro c hc
  simp only [Val.hexL, List.mem_cons, List.mem_nil_iff, or_false] at hc
  rcases hc with rfl | rfl | rfl | rfl | rfl | rfl <;> exact q2 _
theorem nice_words : ∀ p : Fin 27, ∀ i : Fin 4, i.val < (Val.wordsP p.val).length → (∀ c ∈ ((Val.wordsP p.val).getD i.val ByteArray.empty).data.toList, niceB c = true) ∧ ((Val.wordsP p.val).getD i.val ByteArray.empty).data.toList ≠ [] := by decide +kernel
theorem nice_print (p k n : Int) (h : Val.mayV (Val.cl p) k n = true) : ∀ c ∈ (Val.printV p k n).data.toList, niceB c = true := by
  have hP : Val.printL (Val.cl p) k n = (if k = 1 then Val.autoW else if k = 4 then 35 :: Val.hexL n.toNat else if k = 5 then ((Val.wordsP (Val.cl p)).getD n.toNat ByteArray.empty).data.toList
      else if k = 2 then Val.decL n ++ [112, 120] else if k = 3 then Val.decL n ++ [37] else Val.decL n) := by unfold Val.printL; rw [if_pos h]
  have e : (Val.printV p k n).data.toList = Val.printL (Val.cl p) k n := by unfold Val.printV; simp
  rw [e, hP]
  rcases Val.may_kinds h with ⟨rfl, rfl, ha⟩ | ⟨rfl, h1, h2, ha⟩ | ⟨rfl, h1, h2, ha⟩ | ⟨rfl, h1, h2, ha⟩ | ⟨rfl, h1, h2⟩ | ⟨rfl, h1, h2, ha⟩
  · rw [if_pos rfl]; decide
  · rw [if_neg (by omega), if_neg (by omega), if_neg (by omega), if_pos rfl]
    intro c hc
    rcases List.mem_append.1 hc with hc | hc
    · exact nice_decL n c hc
    · simp only [List.mem_cons, List.mem_nil_iff, or_false] at hc
      rcases hc with rfl | rfl <;> decide
  · rw [if_neg (by omega), if_neg (by omega), if_neg (by omega), if_neg (by omega), if_pos rfl]
    intro c hc
    rcases List.mem_append.1 hc with hc | hc
    · exact nice_decL n c hc
    · rw [List.mem_singleton] at hc
      subst hc
      decide
  · rw [if_neg (by omega), if_pos rfl]
    intro c hc
    rcases List.mem_cons.1 hc with rfl | hc
    · decide
    · exact nice_hex _ c hc
  · rw [if_neg (by omega), if_neg (by omega), if_pos rfl]
    rw [Val.wordsP_len _ (Val.cl_le p)] at h2
    have := Val.wordsP_le (Val.cl p)
    exact (nice_words ⟨Val.cl p, Val.cl_lt p⟩ ⟨n.toNat, by omega⟩ (by show n.toNat < (Val.wordsP (Val.cl p)).length; omega)).1
  · rw [if_neg (by omega), if_neg (by omega), if_neg (by omega), if_neg (by omega), if_neg (by omega)]
    exact nice_decL n
/-! ### names -/
theorem names_ok : ∀ q : Fin 26, (∀ c ∈ (Val.nameP (q.val + 1 : Nat)).data.toList, niceB c = true) ∧ (Val.nameP (q.val + 1 : Nat)).data.toList ≠ [] ∧ propsV (Val.nameP (q.val + 1 : Nat)) = (((q.val + 1 : Nat) : Int), 1) := by decide +kernel
theorem may_zero : (Val.rec0 0).auto = false ∧ (Val.rec0 0).length = false ∧ (Val.rec0 0).part = false ∧ (Val.rec0 0).color = false ∧ (Val.rec0 0).number = false ∧ (Val.wordsP 0).length = 0 := by decide +kernel
theorem cl_pos (p k n : Int) (h : Val.mayV (Val.cl p) k n = true) : Val.cl p ≠ 0 := by
  intro h0
  rw [h0] at h
  obtain ⟨z1, z2, z3, z4, z5, z6⟩ := may_zero
  rcases Val.may_kinds h with ⟨rfl, rfl, ha⟩ | ⟨rfl, h1, h2, ha⟩ | ⟨rfl, h1, h2, ha⟩ | ⟨rfl, h1, h2, ha⟩ | ⟨rfl, h1, h2⟩ | ⟨rfl, h1, h2, ha⟩
  · rw [z1] at ha; cases ha
  · rw [z2] at ha; cases ha
  · rw [z3] at ha; cases ha
  · rw [z4] at ha; cases ha
  · rw [Val.wordsP_len _ (by omega)] at h2
    rw [z6] at h2
    omega
  · rw [z5] at ha; cases ha
theorem print_ne (p k n : Int) (h : Val.mayV (Val.cl p) k n = true) : (Val.printV p k n).data.toList ≠ [] := by
  intro he
  have h1 := Val.back_read p k n h
  have e : Val.printV p k n = ⟨#[]⟩ := ba_ext (by rw [he])
  rw [e] at h1
  have h2 := Val.fin_empty ⟨Val.cl p, Val.cl_lt p⟩
  have h3 : (Val.readV p ⟨#[]⟩).2 = false := h2
  rw [h1] at h3
  cases h3
/-- the property of one that may be -/
theorem prop_of (p k n : Int) (h : Val.mayV (Val.cl p) k n = true) : p = (Val.cl p : Int) ∧ 1 ≤ Val.cl p ∧ Val.cl p ≤ 26 := by
  have h0 := cl_pos p k n h
  have h1 := Val.cl_lt p
  refine ⟨?_, by omega, by omega⟩
  by_cases hr : 1 ≤ p ∧ p ≤ 26
  · rw [Val.cl_in hr.1 hr.2]; omega
  · exact absurd (Val.cl_out hr) h0
theorem nice_all : ∀ i : Fin 256, niceB (UInt8.ofNat i.val) = true → isB (UInt8.ofNat i.val) = false ∧ lowB (UInt8.ofNat i.val) = UInt8.ofNat i.val ∧ UInt8.ofNat i.val ≠ 33 ∧ UInt8.ofNat i.val ≠ 47 ∧ UInt8.ofNat i.val ≠ 58 ∧ UInt8.ofNat i.val ≠ 59 ∧ UInt8.ofNat i.val ≠ 123 ∧ UInt8.ofNat i.val ≠ 125 := by decide +kernel
theorem nice_of {c : UInt8} (h : niceB c = true) : isB c = false ∧ lowB c = c ∧ c ≠ 33 ∧ c ≠ 47 ∧ c ≠ 58 ∧ c ≠ 59 ∧ c ≠ 123 ∧ c ≠ 125 := by
  have e : UInt8.ofNat c.toNat = c := by simp
  have := nice_all ⟨c.toNat, c.toNat_lt⟩
  rw [e] at this
  exact this h
theorem nice_low {l : List UInt8} (h : ∀ c ∈ l, niceB c = true) : l.map lowB = l := by
  induction l with
  | nil => rfl
  | cons c l ih =>
    rw [List.map_cons, (nice_of (h c (by simp))).2.1, ih (fun x hx => h x (by simp [hx]))]
theorem suf_33 {l m : List UInt8} (h : (33 : UInt8) ∉ l) (hm : (33 : UInt8) ∈ m) : Lib.hasSuffix l m = false := by
  cases he : Lib.hasSuffix l m with
  | false => rfl
  | true =>
    exfalso
    apply h
    unfold Lib.hasSuffix at he
    obtain ⟨x, hx⟩ := List.isSuffixOf_iff_suffix.1 he
    rw [← hx]
    exact List.mem_append_right _ hm
def tailS (s : Bool) : List UInt8 := if s = true then 32 :: strongW else []
theorem one_decl (p k n : Int) (s : Bool) (h : Val.mayV (Val.cl p) k n = true) : (59 : UInt8) ∉ nameD (p, k, n, s) ++ tailS s ∧ partD (nameD (p, k, n, s) ++ tailS s) = [(p, k, n, s)] := by
  obtain ⟨hp, hp1, hp26⟩ := prop_of p k n h
  obtain ⟨N1, N2, N3⟩ := names_ok ⟨Val.cl p - 1, by omega⟩
  have ecl : ((Val.cl p - 1 + 1 : Nat) : Int) = p := by omega
  simp only [ecl] at N1 N2 N3
  have V1 := nice_print p k n h
  have V2 := print_ne p k n h
  have V3 := Val.back_read p k n h
  obtain ⟨nm, hnm⟩ : ∃ l, (Val.nameP p).data.toList = l := ⟨_, rfl⟩
  obtain ⟨pv, hpv⟩ : ∃ l, (Val.printV p k n).data.toList = l := ⟨_, rfl⟩
  obtain ⟨sp, hsp⟩ : ∃ l, tailS s = l := ⟨_, rfl⟩
  have hA : nameD (p, k, n, s) ++ tailS s = 32 :: (nm ++ 58 :: (32 :: (pv ++ sp))) := by
    unfold nameD
    rw [hnm, hpv, hsp]
    simp
  have eN : Val.nameP p = ba nm := by rw [← hnm, data_ba]
  have eV : Val.printV p k n = ba pv := by rw [← hpv, data_ba]
  rw [hnm] at N1 N2
  rw [hpv] at V1 V2
  rw [eN] at N3
  rw [eV] at V3
  have hcase : (s = false ∧ sp = []) ∨ (s = true ∧ sp = 32 :: strongW) := by
    cases s with
    | false => exact .inl ⟨rfl, hsp.symm⟩
    | true => exact .inr ⟨rfl, hsp.symm⟩
  have hs59 : (59 : UInt8) ∉ sp ∧ (58 : UInt8) ∉ sp := by
    rcases hcase with ⟨_, rfl⟩ | ⟨_, rfl⟩
    · simp
    · decide
  have n58 : (58 : UInt8) ∉ nm := fun hc => (nice_of (N1 _ hc)).2.2.2.2.1 rfl
  have n59 : (59 : UInt8) ∉ nm := fun hc => (nice_of (N1 _ hc)).2.2.2.2.2.1 rfl
  have v59 : (59 : UInt8) ∉ pv := fun hc => (nice_of (V1 _ hc)).2.2.2.2.2.1 rfl
  have v33 : (33 : UInt8) ∉ pv := fun hc => (nice_of (V1 _ hc)).2.2.1 rfl
  have hlast : ∃ y c, pv ++ sp = y ++ [c] ∧ isB c = false := by
    rcases hcase with ⟨_, rfl⟩ | ⟨_, rfl⟩
    · refine ⟨pv.dropLast, pv.getLast V2, by rw [List.append_nil, List.dropLast_concat_getLast], (nice_of (V1 _ (List.getLast_mem V2))).1⟩
    · exact ⟨pv ++ 32 :: [33, 105, 109, 112, 111, 114, 116, 97, 110], 116, by simp [strongW], rfl⟩
  obtain ⟨y, c, hy, hcb⟩ := hlast
  have headP : ∀ b, (pv ++ sp).head? = some b → isB b = false := fun b hb => by
    cases pv with
    | nil => exact absurd rfl V2
    | cons a r =>
      rw [List.cons_append, List.head?_cons] at hb
      rw [← Option.some.inj hb]
      exact (nice_of (V1 a (by simp))).1
  have tP : trimL (pv ++ sp) = pv ++ sp := trim_tidy ⟨headP, fun b hb => by
    rw [hy, List.getLast?_concat] at hb
    rw [← Option.some.inj hb]
    exact hcb⟩
  have tY : trimL (nm ++ 58 :: (32 :: (pv ++ sp))) = nm ++ 58 :: (32 :: (pv ++ sp)) := trim_tidy ⟨fun b hb => by
    cases nm with
    | nil => exact absurd rfl N2
    | cons a r =>
      rw [List.cons_append, List.head?_cons] at hb
      rw [← Option.some.inj hb]
      exact (nice_of (N1 a (by simp))).1, fun b hb => by
    rw [hy, show nm ++ (58 : UInt8) :: (32 :: (y ++ [c])) = (nm ++ 58 :: (32 :: y)) ++ [c] by simp, List.getLast?_concat] at hb
    rw [← Option.some.inj hb]
    exact hcb⟩
  have tN : trimL nm = nm := trim_tidy ⟨fun b hb => (nice_of (N1 b (List.mem_of_mem_head? hb))).1, fun b hb => (nice_of (N1 b (List.mem_of_getLast? hb))).1⟩
  refine ⟨?_, ?_⟩
  · rw [hA]
    simp [n59, v59, hs59.1]
  rw [hA]
  unfold partD
  rw [trim_cons (c := 32) rfl, tY]
  have hcut : Lib.cut (ba (nm ++ 58 :: (32 :: (pv ++ sp)))).data.toList [58] = (nm, 32 :: (pv ++ sp), true) := by rw [ba_data]; exact cut_first n58
  have hN : lowV (trimV (ba nm)) = ba nm := ba_ext (by rw [lowV_data, trimV_data, ba_data, tN, nice_low N1])
  have hlow : (pv ++ sp).map lowB = pv ++ sp := by
    rw [List.map_append, nice_low V1]
    rcases hcase with ⟨_, rfl⟩ | ⟨_, rfl⟩
    · rfl
    · congr 1
  have ht : (lowV (trimV (ba (32 :: (pv ++ sp))))).data.toList = pv ++ sp := by
    rw [lowV_data, trimV_data, ba_data, trim_cons (c := 32) rfl, tP, hlow]
  have hsuf : Lib.hasSuffix (pv ++ sp) strongW = s ∧ Val.readV p (ba (Lib.trimSuffix (pv ++ sp) strongW)) = ((k, n), true) := by
    rcases hcase with ⟨rfl, rfl⟩ | ⟨rfl, rfl⟩
    · rw [List.append_nil]
      have hns := suf_33 v33 (m := strongW) (by decide)
      refine ⟨hns, ?_⟩
      unfold Lib.trimSuffix
      rw [hns]
      exact V3
    · have e : pv ++ 32 :: strongW = (pv ++ [32]) ++ strongW := by simp
      rw [e]
      obtain ⟨q1, q2⟩ := Val.suf_app (pv ++ [32]) strongW
      refine ⟨q1, ?_⟩
      rw [q2]
      have e2 : trimV (ba (pv ++ [32])) = trimV (ba pv) := ba_ext (by rw [trimV_data, trimV_data, ba_data, ba_data, trim_snoc (c := 32) rfl])
      unfold Val.readV at V3 ⊢
      rw [e2]
      exact V3
  have hp0 : p ≠ 0 := by omega
  unfold declV
  dsimp only
  rw [hcut]
  dsimp only
  rw [hN, N3, if_pos ⟨rfl, hp0⟩, ht, hsuf.1]
  have hts : textsV (p, (1 : Int)).2 (ba (Lib.trimSuffix (pv ++ sp) strongW)) = [ba (Lib.trimSuffix (pv ++ sp) strongW)] := rfl
  rw [hts, if_pos ⟨by simp, by simp⟩]
  show valsV p [ba (Lib.trimSuffix (pv ++ sp) strongW)] s (sharedV 1) 1 0 [] = _
  have hx : ([ba (Lib.trimSuffix (pv ++ sp) strongW)] : List ByteArray).getD ((sharedV 1).getD 0 0) ByteArray.empty = ba (Lib.trimSuffix (pv ++ sp) strongW) := rfl
  rw [valsV, hx]
  have e0 : p + ((0 : Nat) : Int) = p := by omega
  rw [e0, hsuf.2]
  rfl
end Go.Proofs.Sht
set_option linter.unusedVariables false
set_option linter.unusedSimpArgs false
namespace Go.Proofs.Sht
open Go Go.Lib Go.Proofs.Scn
theorem trim_nil : trimL [] = [] := by decide
/-- what hangs on the parts' trimmed texts alone doesn't hang on blanks about the whole -/
theorem parts_trim {c : UInt8} (hc : isB c = false) : ∀ (n : Nat) (X : List UInt8), X.length ≤ n → (spl c (trimL X)).map trimL = (spl c X).map trimL
  | 0, X, h => by
    have : X = [] := List.length_eq_zero_iff.1 (by omega)
    rw [this, trim_nil]
  | n + 1, X, h => by
    cases X with
    | nil => rw [trim_nil]
    | cons a t =>
      by_cases ha : isB a = true
      · have hac : a ≠ c := fun e => by rw [e, hc] at ha; cases ha
        obtain ⟨p, r, e⟩ := spl_ne c t
        rw [trim_cons ha, parts_trim hc n t (by simp at h; omega), spl_step hac e, e, List.map_cons, List.map_cons, trim_cons ha]
      · rw [Bool.not_eq_true] at ha
        rcases List.eq_nil_or_concat (a :: t) with e0 | ⟨y, b, e0⟩
        · cases e0
        · have e1 : a :: t = y ++ [b] := by rw [e0, List.concat_eq_append]
          by_cases hb : isB b = true
          · have hbc : b ≠ c := fun e => by rw [e, hc] at hb; cases hb
            obtain ⟨xs, z, h1, h2⟩ := spl_snoc hbc y
            have hl : y.length ≤ n := by
              have := congrArg List.length e1
              simp at this h
              omega
            rw [e1, trim_snoc hb, parts_trim hc n y hl, h1, h2, List.map_append, List.map_append, List.map_cons, List.map_cons, trim_snoc hb]
          · rw [Bool.not_eq_true] at hb
            have ht : trimL (a :: t) = a :: t := trim_tidy ⟨fun q hq => by
              rw [List.head?_cons] at hq
              rw [← Option.some.inj hq]
              exact ha, fun q hq => by
              rw [e1, List.getLast?_concat] at hq
              rw [← Option.some.inj hq]
              exact hb⟩
            rw [ht]
theorem decls_parts (X : List UInt8) : (spl 59 X).flatMap partD = ((spl 59 X).map trimL).flatMap fun p => declV (ba p) := by
  rw [List.flatMap_map]
  rfl
theorem decls_trim (X : List UInt8) : (spl 59 (trimL X)).flatMap partD = (spl 59 X).flatMap partD := by
  rw [decls_parts, decls_parts, parts_trim (by decide) _ X (Nat.le_refl _)]
theorem declL_A (p k n : Int) (s : Bool) : declL (p, k, n, s) = (nameD (p, k, n, s) ++ tailS s) ++ [59] := by
  unfold declL tailS
  simp
theorem body_list : ∀ ds : List Dc, (∀ d ∈ ds, mayDc d = true) → ∀ t, (spl 59 (ds.flatMap declL ++ t)).flatMap partD = ds ++ (spl 59 t).flatMap partD
  | [], _, t => rfl
  | (p, k, n, s) :: ds, h, t => by
    have hm : Val.mayV (Val.cl p) k n = true := h (p, k, n, s) (by simp)
    obtain ⟨h1, h2⟩ := one_decl p k n s hm
    have e : ((p, k, n, s) :: ds).flatMap declL ++ t = (nameD (p, k, n, s) ++ tailS s) ++ 59 :: (ds.flatMap declL ++ t) := by
      rw [List.flatMap_cons, declL_A]
      simp
    rw [e, spl_app, List.flatMap_append, spl_none h1, List.flatMap_cons, List.flatMap_nil, List.append_nil, h2, body_list ds (fun d hd => h d (by simp [hd])) t]
    rfl
/-- a body's declarations, as the block tells it -/
theorem body_back (ds : List Dc) (h : ∀ d ∈ ds, mayDc d = true) : declsV (ba (trimL (ds.flatMap declL ++ [32]))) = ds := by
  unfold declsV
  rw [ba_data, decls_trim, body_list ds h]
  have : (spl 59 ([32] : List UInt8)).flatMap partD = [] := by decide +kernel
  rw [this, List.append_nil]
/-! ### the selectors between commas -/
theorem sels_parts (ss : List Sel) (hp : ∀ s ∈ ss, (44 : UInt8) ∉ (Tok.printV s.1 s.2).data.toList ∧ trimL (Tok.printV s.1 s.2).data.toList = (Tok.printV s.1 s.2).data.toList) : ∀ k, 0 < k → k ≤ ss.length → (spl 44 (selsN ss k)).map trimL = (ss.take k).map fun s => (Tok.printV s.1 s.2).data.toList
  | 0, h, _ => by omega
  | k + 1, _, hk => by
    have hlt : k < ss.length := by omega
    have hg : ss.getD k zSel = ss[k] := by rw [List.getD, List.getElem?_eq_getElem hlt]; rfl
    obtain ⟨h1, h2⟩ := hp _ (List.getElem_mem hlt)
    rw [selsN, hg, List.take_succ_eq_append_getElem hlt, List.map_append, List.map_cons, List.map_nil]
    by_cases k0 : k = 0
    · subst k0
      rw [if_pos rfl]
      have e0 : selsN ss 0 = [] := rfl
      rw [e0, List.nil_append, List.nil_append, spl_none h1, List.map_cons, List.map_nil, h2]
      rfl
    · have ih := sels_parts ss hp k (by omega) (by omega)
      rw [if_neg k0]
      have h1' : (44 : UInt8) ∉ 32 :: (Tok.printV ss[k].1 ss[k].2).data.toList := by simp [h1]
      have e : selsN ss k ++ ([44, 32] ++ (Tok.printV ss[k].1 ss[k].2).data.toList) = selsN ss k ++ 44 :: (32 :: (Tok.printV ss[k].1 ss[k].2).data.toList) := by simp
      rw [e, spl_app, List.map_append, ih, spl_none h1', List.map_cons, List.map_nil, trim_cons (c := 32) rfl, h2]
theorem head_parts (ss : List Sel) (h0 : 0 < ss.length) (hp : ∀ s ∈ ss, (44 : UInt8) ∉ (Tok.printV s.1 s.2).data.toList ∧ trimL (Tok.printV s.1 s.2).data.toList = (Tok.printV s.1 s.2).data.toList) : (spl 44 (trimL (selsN ss ss.length ++ [32]))).map trimL = ss.map fun s => (Tok.printV s.1 s.2).data.toList := by
  have e : trimL (selsN ss ss.length ++ [32]) = trimL (selsN ss ss.length) := trim_snoc (c := 32) rfl
  rw [e, parts_trim (by decide) _ _ (Nat.le_refl _), sels_parts ss hp _ h0 (Nat.le_refl _), List.take_length]
end Go.Proofs.Sht
set_option linter.unusedVariables false
set_option linter.unusedSimpArgs false
namespace Go.Proofs.YtolfpgccebdlpaaGreatDoor.Pure
open Go.RowKit Go.Proofs.YtolfpgccebdlpaaGreatDoor.HT Go.Proofs.YtolfpgccebdlpaaGreatDoorW.PrintWords Go.Proofs.YtolfpgccebdlpaaGreatDoorW.PrintLast Go.Proofs.YtolfpgccebdlpaaGreatDoorW.PrintMore Go.Proofs.Scn Go.Proofs.Tok
open Go.Proofs.Sht (Sel Rl Dc mayR mayL maySel mayDc selsN declL ruleL printR addS wP wS wR okSel sizR fitR txtR lenR fitS txtS lenS)
/-! ### printed selectors between commas -/
def ofSmp (x : Smp) : S80 := ⟨x.1, x.2.1, x.2.2.1, x.2.2.2.1, x.2.2.2.2⟩
def ofSel (s : Sel) : SEL := ⟨s.1.map ofSmp, s.2⟩
def ofR (r : Rl) : RUL := ⟨r.1.map ofSel, r.2.map sheet_decls.it⟩
abbrev toR : RUL → Rl := sheet_May.it
theorem smp_of (l : List Smp) : (l.map ofSmp).map it = l := by rw [List.map_map]; exact List.map_id' l
theorem to_of (r : Rl) : toR (ofR r) = r := by
  obtain ⟨ss, ds⟩ := r
  have e1 : (ss.map ofSel).map sheet_May.sel = ss := by
    rw [List.map_map]
    refine Eq.trans (List.map_congr_left fun s _ => ?_) (List.map_id' ss)
    show ((s.1.map ofSmp).map sheet_May.smp, s.2) = s
    rw [show (s.1.map ofSmp).map sheet_May.smp = s.1 from smp_of s.1]
  have e2 : (ds.map sheet_decls.it).map sheet_May.dc = ds := by rw [List.map_map]; exact List.map_id' ds
  show ((ss.map ofSel).map sheet_May.sel, (ds.map sheet_decls.it).map sheet_May.dc) = (ss, ds)
  rw [e1, e2]
theorem map_to_of (l : List Rl) : (l.map ofR).map toR = l := by
  rw [List.map_map]
  exact Eq.trans (List.map_congr_left fun r _ => to_of r) (List.map_id' l)
theorem pl_of (s : Sel) : PL (ofSel s) = (printV s.1 s.2).data.toList := by
  show (printV ((s.1.map ofSmp).map it) s.2).data.toList = _
  rw [smp_of]
theorem may_of (s : Sel) : mayB (ofSel s) = maySel s := by
  show mayS ((s.1.map ofSmp).map it) s.2.length = _
  rw [smp_of]
  rfl
theorem okT_out {c : UInt8} (h : okT c = true) : c ≠ 123 ∧ c ≠ 125 ∧ c ≠ 47 := by
  have := all256 (fun c => !okT c || ((c != 123) && ((c != 125) && (c != 47)))) (by decide +kernel) c
  simp only [h, Bool.not_true, Bool.false_or, Bool.and_eq_true, bne_iff_ne, ne_eq] at this
  exact this
theorem pl_out : ∀ (xs : List Smp) (bs : List Bool), (∀ x ∈ xs, mayX x = true) → ∀ c ∈ pl xs bs, c ≠ 123 ∧ c ≠ 125 ∧ c ≠ 47
  | [], bs, _, c, hc => by simp [pl] at hc
  | x :: xs, [], _, c, hc => by simp [pl] at hc
  | x :: xs, b :: bs, h, c, hc => by
    rw [pl] at hc
    rcases List.mem_append.1 hc with hc | hc
    · have : ∀ (b : Bool), ∀ c ∈ sp b, c ≠ 123 ∧ c ≠ 125 ∧ c ≠ 47 := by decide
      exact this b c hc
    · rcases List.mem_append.1 hc with hc | hc
      · exact okT_out ((T_ok (h x (by simp))).2 c hc)
      · exact pl_out xs bs (fun y hy => h y (by simp [hy])) c hc
theorem print_out (xs : List Smp) (bs : List Bool) : ∀ c ∈ (printV xs bs).data.toList, c ≠ 123 ∧ c ≠ 125 ∧ c ≠ 47 := by
  cases h : mayS xs bs.length with
  | false => rw [print_empty h]; intro c hc; simp at hc
  | true =>
    cases xs with
    | nil => exact absurd rfl (mayS_parts h).1
    | cons y ys =>
      obtain ⟨_, _, _, hm⟩ := mayS_parts h
      rw [print_data h]
      intro c hc
      rcases List.mem_append.1 hc with hc | hc
      · exact okT_out ((T_ok (hm y (by simp))).2 c hc)
      · exact pl_out ys bs (fun z hz => hm z (by simp [hz])) c hc
theorem sels_out (ss : List Sel) : ∀ k, ∀ c ∈ selsN ss k, c ≠ 123 ∧ c ≠ 125 ∧ c ≠ 47
  | 0, c, hc => by simp [selsN] at hc
  | k + 1, c, hc => by
    rw [selsN] at hc
    rcases List.mem_append.1 hc with hc | hc
    · exact sels_out ss k c hc
    · rcases List.mem_append.1 hc with hc | hc
      · split at hc
        · simp at hc
        · simp only [List.mem_cons, List.not_mem_nil, or_false] at hc
          rcases hc with rfl | rfl <;> decide
      · exact print_out _ _ c hc
theorem decls_out (ds : List Dc) (h : ∀ d ∈ ds, mayDc d = true) : ∀ c ∈ ds.flatMap declL, c ≠ 125 ∧ c ≠ 47 := by
  intro c hc
  obtain ⟨⟨p, k, n, s⟩, hd, hc⟩ := List.mem_flatMap.1 hc
  have hm : Val.mayV (Val.cl p) k n = true := h _ hd
  obtain ⟨hp, hp1, hp26⟩ := Sht.prop_of p k n hm
  obtain ⟨N1, _, _⟩ := Sht.names_ok ⟨Val.cl p - 1, by omega⟩
  have ecl : ((Val.cl p - 1 + 1 : Nat) : Int) = p := by omega
  simp only [ecl] at N1
  have V1 := Sht.nice_print p k n hm
  rw [Sht.declL_A] at hc
  rcases List.mem_append.1 hc with hc | hc
  · rcases List.mem_append.1 hc with hc | hc
    · unfold Sht.nameD at hc
      rcases List.mem_cons.1 hc with rfl | hc
      · decide
      · rcases List.mem_append.1 hc with hc | hc
        · have := Sht.nice_of (N1 c hc); exact ⟨this.2.2.2.2.2.2.2, this.2.2.2.1⟩
        · rcases List.mem_cons.1 hc with rfl | hc
          · decide
          · rcases List.mem_cons.1 hc with rfl | hc
            · decide
            · have := Sht.nice_of (V1 c hc); exact ⟨this.2.2.2.2.2.2.2, this.2.2.2.1⟩
    · have : ∀ (b : Bool), ∀ c ∈ Sht.tailS b, c ≠ 125 ∧ c ≠ 47 := by decide
      exact this s c hc
  · rw [List.mem_singleton] at hc
    rw [hc]
    decide
theorem mayR_parts {r : Rl} (h : mayR r = true) : 0 < r.1.length ∧ r.1.length ≤ 20 ∧ r.2.length ≤ 60 ∧ (∀ s ∈ r.1, maySel s = true) ∧ ∀ d ∈ r.2, mayDc d = true := by
  unfold mayR at h
  simp only [Bool.and_eq_true, Bool.not_eq_true', decide_eq_true_eq, List.any_eq_false] at h
  obtain ⟨h1, h2, h3, h4, h5⟩ := h
  refine ⟨?_, h2, h3, fun s hs => ?_, fun d hd => ?_⟩
  · rcases Nat.eq_zero_or_pos r.1.length with h0 | h0
    · rw [h0] at h1; cases h1
    · exact h0
  · have := h4 s hs
    simpa using this
  · have := h5 d hd
    simpa using this
theorem mayL_parts {l : List Rl} (h : mayL l = true) : (∀ r ∈ l, mayR r = true) ∧ l.length ≤ 40 := by
  unfold mayL at h
  rw [Bool.and_eq_true] at h
  exact ⟨List.all_eq_true.1 h.1, of_decide_eq_true h.2⟩
theorem rule_okR {r : Rl} (h : mayR r = true) : Sht.okR r := ⟨sels_out _ _, decls_out _ (mayR_parts h).2.2.2.2⟩
theorem rule_back {r : Rl} (h : mayR r = true) : ruleB (selsN r.1 r.1.length ++ [32], r.2.flatMap declL ++ [32]) = [ofR r] := by
  obtain ⟨h0, _, _, hs, hd⟩ := mayR_parts h
  have e1 := Sht.head_parts r.1 h0 (fun s _ => by have := PL_ok (ofSel s); rw [pl_of] at this; exact this)
  have e2 := Sht.body_back r.2 hd
  have e3 : ((spl 44 (trimL (selsN r.1 r.1.length ++ [32]))).map fun q => ba (trimL q)) = (r.1.map ofSel).map fun x => ba (PL x) := by
    have : ((spl 44 (trimL (selsN r.1 r.1.length ++ [32]))).map fun q => ba (trimL q)) = ((spl 44 (trimL (selsN r.1 r.1.length ++ [32]))).map trimL).map ba := by rw [List.map_map]; rfl
    rw [this, e1, List.map_map, List.map_map]
    refine List.map_congr_left fun s _ => ?_
    show ba _ = ba (PL (ofSel s))
    rw [pl_of]
  have e4 : (r.1.map ofSel).all mayB = true := by
    rw [List.all_eq_true]
    intro x hx
    obtain ⟨s, hs1, rfl⟩ := List.mem_map.1 hx
    rw [may_of]
    exact hs s hs1
  unfold ruleB
  dsimp only
  rw [e3, listL_all, if_pos e4, e2, if_pos rfl]
  rfl
theorem rule_mkB (p : List UInt8 × List UInt8) : ruleB (Sht.mkB p) = ruleB p := by
  unfold ruleB Sht.mkB
  dsimp only
  rw [trim_trim, trim_trim]
theorem rules_mkB (bs : List (List UInt8 × List UInt8)) : rulesOf (bs.map Sht.mkB) = rulesOf bs := by
  unfold rulesOf
  rw [List.flatMap_map]
  congr 1
  funext p
  exact rule_mkB p
/-- rules that are printed ahead of any text -/
theorem rules_joined (l : List Rl) (h : ∀ r ∈ l, mayR r = true) (s : List UInt8) : rulesOf (bgo none [] (scn false (l.flatMap ruleL ++ s))) = l.map ofR ++ rulesOf (bgo none [] (scn false s)) := by
  rw [← rules_mkB, Sht.blocks_joined l (fun r hr => rule_okR (h r hr))]
  unfold rulesOf
  rw [List.flatMap_append]
  congr 1
  · rw [List.flatMap_map]
    induction l with
    | nil => rfl
    | cons r l ih =>
      rw [List.flatMap_cons, ih (fun x hx => h x (by simp [hx])), rule_mkB, rule_back (h r (by simp))]
      rfl
  · exact rules_mkB _
theorem print_L {l : List Rl} (h : mayL l = true) : (printR l).data.toList = l.flatMap ruleL := by
  unfold printR
  rw [if_pos h]
theorem read_back {l : List Rl} (h : mayL l = true) (hz : (printR l).size ≤ 4000) : readF (printR l) = (l.map ofR, 0) := by
  obtain ⟨h1, h2⟩ := mayL_parts h
  have hj := rules_joined l h1 []
  rw [List.append_nil] at hj
  have e0 : rulesOf (bgo none [] (scn false [])) = [] := by rw [show scn false [] = [] by unfold scn; rfl, bgo_nil]; rfl
  unfold readF
  rw [if_neg (by omega), print_L h, hj, e0, List.append_nil]
  unfold fullF
  rw [if_neg (by rw [List.length_map]; omega)]
theorem name_len {l : List UInt8} (h : nameV l = true) : l.length ≤ 20 := by
  unfold nameV at h
  rw [Bool.and_eq_true, Bool.and_eq_true] at h
  obtain ⟨h1, h2, _⟩ := h
  have h2 := of_decide_eq_true h2
  unfold nameOk at h1
  rw [Bool.and_eq_true, Bool.and_eq_true] at h1
  have := of_decide_eq_true h1.2.1
  omega
/-! ### how large -/
theorem addS_mem {l : List ByteArray} {s : ByteArray} (h : s ∈ l) : s.size + 1 ≤ addS l := by
  induction l with
  | nil => cases h
  | cons a t ih =>
    have e : addS (a :: t) = (1 + a.size) + addS t := by unfold addS; rw [List.map_cons, List.sum_cons]
    rcases List.mem_cons.1 h with rfl | h
    · omega
    · have := ih h; omega
theorem addS_len (l : List ByteArray) : l.length ≤ addS l := by
  induction l with
  | nil => exact Nat.zero_le _
  | cons a t ih =>
    have e : addS (a :: t) = (1 + a.size) + addS t := by unfold addS; rw [List.map_cons, List.sum_cons]
    rw [List.length_cons]
    omega
theorem preW_add (c : UInt8) (l : List ByteArray) : (preW c l).length = addS l := by
  induction l with
  | nil => rfl
  | cons a t ih =>
    have e : addS (a :: t) = (1 + a.size) + addS t := by unfold addS; rw [List.map_cons, List.sum_cons]
    have e2 : preW c (a :: t) = (c :: a.data.toList) ++ preW c t := rfl
    rw [e2, List.length_append, ih, e, List.length_cons, ← sz]
    omega
theorem sum_mem {α : Type} (f : α → Nat) {l : List α} {x : α} (h : x ∈ l) : f x ≤ (l.map f).sum := by
  induction l with
  | nil => cases h
  | cons a t ih =>
    rw [List.map_cons, List.sum_cons]
    rcases List.mem_cons.1 h with rfl | h
    · omega
    · have := ih h; omega
theorem sum_len {α : Type} (f : α → Nat) (hf : ∀ x, 1 ≤ f x) (l : List α) : l.length ≤ (l.map f).sum := by
  induction l with
  | nil => exact Nat.zero_le _
  | cons a t ih =>
    rw [List.map_cons, List.sum_cons, List.length_cons]
    have := hf a
    omega
def fineX (x : Smp) : Prop := fitX x ∧ txtX x ∧ lenX x
theorem fine_of {x : Smp} (h : wP x ≤ 5000) : fineX x := by
  have h1 := addS_len x.2.1
  have h2 := addS_len x.2.2.1
  unfold wP at h
  refine ⟨⟨by omega, by omega, fun s hs => ?_⟩, ⟨⟨by omega, by omega⟩, ?_⟩, by omega, by omega⟩
  · rcases List.mem_append.1 hs with hs | hs
    · have := addS_mem hs; omega
    · have := addS_mem hs; omega
  · rw [preW_add, preW_add]; omega
theorem add_names : ∀ {l : List ByteArray}, (∀ s ∈ l, nameV s.data.toList = true) → addS l ≤ 21 * l.length
  | [], _ => Nat.le_refl _
  | a :: t, h => by
    have e : addS (a :: t) = (1 + a.size) + addS t := by unfold addS; rw [List.map_cons, List.sum_cons]
    have h1 := name_len (h a (by simp))
    have h2 := add_names (l := t) fun s hs => h s (by simp [hs])
    rw [← sz] at h1
    rw [e, List.length_cons]
    omega
theorem may_wP {x : Smp} (h : mayX x = true) : wP x ≤ 201 := by
  obtain ⟨h1, h2, h3⟩ := may_parts h
  have e1 : x.2.1.length + x.2.2.1.length ≤ 8 := by
    unfold tl at h3
    rw [List.length_append, List.length_append, List.length_map, List.length_map] at h3
    omega
  have a1 := add_names (l := x.2.1) fun s hs => h2 s (List.mem_append_left _ hs)
  have a2 := add_names (l := x.2.2.1) fun s hs => h2 s (List.mem_append_right _ hs)
  have a0 : x.1.size ≤ 20 := by
    rw [sz]
    rcases h1 with h1 | h1
    · rw [h1]; simp
    · exact name_len h1
  unfold wP
  omega
/-- small enough to be printed, compared and asked -/
def goodR (r : Rl) : Prop := fitR r ∧ txtR r ∧ lenR r
theorem good_of {r : Rl} (h1 : r.1.length ≤ 100000) (h2 : r.2.length ≤ 100000) (h : ∀ s ∈ r.1, s.1.length ≤ 1000 ∧ s.2.length ≤ 1000 ∧ ∀ p ∈ s.1, fineX p) : goodR r := by
  refine ⟨⟨by omega, by omega, fun s hs => ?_⟩, fun s hs => ?_, by omega, by omega, fun s hs => ?_⟩
  · obtain ⟨a, b, c⟩ := h s hs
    exact ⟨by omega, by omega, fun p hp => (c p hp).1⟩
  · obtain ⟨a, b, c⟩ := h s hs
    exact ⟨a, b, fun p hp => (c p hp).2.1⟩
  · obtain ⟨a, b, c⟩ := h s hs
    exact ⟨by omega, by omega, fun p hp => (c p hp).2.2⟩
theorem good_siz {l : List Rl} (h : sizR l) : ∀ r ∈ l, goodR r := by
  intro r hr
  obtain ⟨_, h2, h3⟩ := h
  have := sum_mem (fun r : Rl => 1 + r.2.length + r.1.length) hr
  unfold wR at h2
  refine good_of (by omega) (by omega) fun s hs => ?_
  obtain ⟨a, b⟩ := h3 r hr s hs
  unfold wS at a
  have q := sum_len wP (fun x => by unfold wP; omega) s.1
  exact ⟨by omega, by omega, fun p hp => fine_of (by have := sum_mem wP hp; omega)⟩
theorem may_sel {s : Sel} (h : maySel s = true) : s.1.length ≤ 1000 ∧ s.2.length ≤ 1000 ∧ ∀ p ∈ s.1, fineX p := by
  obtain ⟨_, h8, hl, hm⟩ := mayS_parts h
  exact ⟨by omega, by omega, fun p hp => fine_of (by have := may_wP (hm p hp); omega)⟩
theorem listL_may : ∀ (ps : List ByteArray) (acc : List SEL), (∀ x ∈ acc, mayB x = true) → (∀ x ∈ (listL ps acc).1, mayB x = true) ∧ (listL ps acc).1.length ≤ acc.length + ps.length
  | [], acc, h => ⟨h, by simp [listL]⟩
  | p :: r, acc, h => by
    rw [listL]
    split
    · rename_i c
      obtain ⟨a, b⟩ := listL_may r (acc ++ [⟨(readV p).1, (readV p).2.1⟩]) (fun x hx => by
        rcases List.mem_append.1 hx with hx | hx
        · exact h x hx
        · rw [List.mem_singleton] at hx
          rw [hx]
          exact (read_may p).1 c)
      refine ⟨a, ?_⟩
      simp at b ⊢
      omega
    · exact ⟨fun x hx => by simp at hx, by simp⟩
theorem good_rules (bs : List (List UInt8 × List UInt8)) (h : ∀ p ∈ bs, p.1.length ≤ 5000 ∧ p.2.length ≤ 5000) : ∀ r ∈ (rulesOf bs).map toR, goodR r := by
  intro r hr
  obtain ⟨x, hx, rfl⟩ := List.mem_map.1 hr
  obtain ⟨p, hp, hx⟩ := List.mem_flatMap.1 hx
  obtain ⟨z1, z2⟩ := h p hp
  unfold ruleB at hx
  split at hx
  · rw [List.mem_singleton] at hx
    obtain ⟨a, b⟩ := listL_may ((spl 44 (trimL p.1)).map fun q => ba (trimL q)) [] (fun x hx => by cases hx)
    have q1 := trim_len p.1
    have q2 := trim_len p.2
    have q3 := Shp.spl_len 44 (trimL p.1)
    have q4 := Shp.declsV_len (ba (trimL p.2))
    rw [sz, ba_data] at q4
    rw [List.length_map, List.length_nil] at b
    subst hx
    refine good_of ?_ ?_ fun s hs => ?_
    · show (List.map sheet_May.sel _).length ≤ _
      rw [List.length_map]
      dsimp only
      omega
    · show (List.map sheet_May.dc _).length ≤ _
      rw [List.length_map, List.length_map]
      omega
    · obtain ⟨y, hy, rfl⟩ := List.mem_map.1 hs
      exact may_sel (a y hy)
  · cases hx
theorem good_read (s : ByteArray) : ∀ r ∈ (readF s).1.map toR, goodR r := by
  unfold readF
  split
  · intro r hr; cases hr
  · have h4 := bgo_mem (scn false s.data.toList) none []
    have h5 := scn_len s.size false s.data.toList (by rw [sz]; exact Nat.le_refl _)
    rw [← sz] at h5
    have hg := good_rules (bgo none [] (scn false s.data.toList)) (fun p hp => by
      have := h4 p hp
      simp only [Option.getD_none, List.length_nil] at this
      omega)
    unfold fullF
    split
    · intro r hr; cases hr
    · exact hg
theorem read_len (s : ByteArray) : (readF s).1.length ≤ 40 ∧ ((readF s).2 = 0 ∨ readF s = ([], 3)) := by
  unfold readF fullF
  split
  · exact ⟨by simp, .inr rfl⟩
  · split
    · exact ⟨by simp, .inr rfl⟩
    · exact ⟨by simp; omega, .inl rfl⟩
end Go.Proofs.YtolfpgccebdlpaaGreatDoor.Pure
