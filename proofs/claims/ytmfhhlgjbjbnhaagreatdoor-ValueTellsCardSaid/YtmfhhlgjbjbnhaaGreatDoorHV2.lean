-- Written by a program of this session (wip/tools/hprint.py), which drives the kit's print; not print.sh's own output.
import Derived.Test.YtmfhhlgjbjbnhaaGreatDoorHV0
import Derived.Test.YtmfhhlgjbjbnhaaGreatDoorHV1
namespace Go.Proofs.YtmfhhlgjbjbnhaaGreatDoor.HV
open Go.RowKit Go.Proofs.YtmfhhlgjbjbnhaaGreatDoorW.PrintWords Go.Proofs.YtmfhhlgjbjbnhaaGreatDoorW.PrintLast Go.Proofs.YtmfhhlgjbjbnhaaGreatDoorW.PrintMore
attribute [local go_sem] max2_int min2_int max_two min_two max_three min_three max_four min_four   -- for this text's walks alone
set_option linter.unusedVariables false
set_option linter.unusedSimpArgs false

attribute [local go_sem high] eqA23
/-! ### value_Read: function 5 (by hand) -/
def value_Read.f (a0 : Int) (a1 : ByteArray) : Option (Int × Int × Bool) := if a1.size < 4294967281 then some ((Go.Proofs.Val.readV a0 a1).1.1, (Go.Proofs.Val.readV a0 a1).1.2, (Go.Proofs.Val.readV a0 a1).2) else none
theorem value_Read.calls (a0 : Int) (a1 : ByteArray) (r1 : Int) (r2 : Int) (r3 : Bool) (w : World) (h : value_Read.f a0 a1 = some (r1, r2, r3)) :
    Calls Tryz.prog 5 #[.int .i64 a0, .string a1] w fun e w' => e = .returned (.tuple #[.agg #[.int .i64 r1, .int .i64 r2], .bool r3]) ∧ Below w.heap.size w w' := by
  unfold value_Read.f at h
  by_cases h1 : a1.size < 4294967281
  · rw [if_pos h1] at h
    cases h
    exact Go.Proofs.Val.readC a0 a1 w h1
  · rw [if_neg h1] at h; cases h


/-! ### value_Prop: function 7 (by hand) -/
def value_Prop.f (a0 : ByteArray) : Option Int := some (Go.Proofs.Val.propV a0)
theorem value_Prop.calls (a0 : ByteArray) (r : Int) (w : World) (h : value_Prop.f a0 = some r) :
    Calls Tryz.prog 7 #[.string a0] w fun e w' => e = .returned (.int .i64 r) ∧ Below w.heap.size w w' := by
  unfold value_Prop.f at h
  cases h
  exact Go.Proofs.Val.propC a0 w


/-! ### value_Name: function 9 (by hand) -/
def value_Name.f (a0 : Int) : Option ByteArray := some (Go.Proofs.Val.nameP a0)
theorem value_Name.calls (a0 : Int) (r : ByteArray) (w : World) (h : value_Name.f a0 = some r) :
    Calls Tryz.prog 9 #[.int .i64 a0] w fun e w' => e = .returned (.string r) ∧ Below w.heap.size w w' := by
  unfold value_Name.f at h
  cases h
  exact Go.Proofs.Val.nameC a0 w


/-! ### value_May: function 11 (by hand) -/
def value_May.f (a0 : Int) (a1_0 : Int) (a1_1 : Int) : Option Bool := some (Go.Proofs.Val.mayV (Go.Proofs.Val.cl a0) a1_0 a1_1)
theorem value_May.calls (a0 : Int) (a1_0 : Int) (a1_1 : Int) (r : Bool) (w : World) (h : value_May.f a0 a1_0 a1_1 = some r) :
    Calls Tryz.prog 11 #[.int .i64 a0, .agg #[.int .i64 a1_0, .int .i64 a1_1]] w fun e w' => e = .returned (.bool r) ∧ Below w.heap.size w w' := by
  unfold value_May.f at h
  cases h
  exact Go.Proofs.Val.mayP a0 a1_0 a1_1 w


/-! ### value_Print: function 13 (by hand) -/
def value_Print.f (a0 : Int) (a1_0 : Int) (a1_1 : Int) : Option ByteArray := some (Go.Proofs.Val.printV a0 a1_0 a1_1)
theorem value_Print.calls (a0 : Int) (a1_0 : Int) (a1_1 : Int) (r : ByteArray) (w : World) (h : value_Print.f a0 a1_0 a1_1 = some r) (hmx : Go.Proofs.Val.Tbs w) :
    Calls Tryz.prog 13 #[.int .i64 a0, .agg #[.int .i64 a1_0, .int .i64 a1_1]] w fun e w' => e = .returned (.string r) ∧ Below w.heap.size w w' := by
  unfold value_Print.f at h
  cases h
  exact Go.Proofs.Val.printC a0 a1_0 a1_1 w hmx


/-! ### value_First: function 15 (by hand) -/
def value_First.f (a0 : Int) : Option (Int × Int) := some (Go.Proofs.Val.firstP a0)
theorem value_First.calls (a0 : Int) (r1 : Int) (r2 : Int) (w : World) (h : value_First.f a0 = some (r1, r2)) :
    Calls Tryz.prog 15 #[.int .i64 a0] w fun e w' => e = .returned (.agg #[.int .i64 r1, .int .i64 r2]) ∧ Below w.heap.size w w' := by
  unfold value_First.f at h
  have h2 : Go.Proofs.Val.firstP a0 = (r1, r2) := Option.some.inj h
  have q := Go.Proofs.Val.firstPC a0 w
  rw [h2] at q
  exact q


/-! ### value_Passed: function 17 -/
def value_Passed.f (a0 : Int) : Option (Bool) := if a0 = 16 then (some true) else (if a0 = 18 then (some true) else (some (a0 == 19)))
set_option maxHeartbeats 8000000 in
set_option maxRecDepth 100000 in
theorem value_Passed.calls (a0 : Int) (r : Bool) (w : World) (h : value_Passed.f a0 = some r) :
    Calls Tryz.prog 17 #[.int .i64 a0] w fun e w' => e = .returned (.bool r) ∧ Drawn0 w w' := by
  have H : (if a0 = 16 then (some true) else (if a0 = 18 then (some true) else (some (a0 == 19)))) = some r := h
  clear h
  by_cases c2 : a0 = 16
  · rw [if_pos c2] at H
    have c2b0 : (a0 == 16) = true := beq_iff_eq.mpr c2
    have c2b1 : (a0 != 16) = false := bne_eq_false_iff_eq.mpr c2
    clear c2
    obtain rfl := Option.some.inj H
    go_enter Tryz.func17, Tryz.ntmps17
    go_wp2
    go_ret
    exact ⟨by first | rfl | (simp; done) | (simp [*]; done), by repeat (first | exact Drawn0.refl _ | apply Drawn0.step)⟩
  · rw [if_neg c2] at H
    have c2b0 : (a0 == 16) = false := beq_eq_false_iff_ne.mpr c2
    have c2b1 : (a0 != 16) = true := bne_iff_ne.mpr c2
    by_cases c3 : a0 = 18
    · rw [if_pos c3] at H
      have c3b0 : (a0 == 18) = true := beq_iff_eq.mpr c3
      have c3b1 : (a0 != 18) = false := bne_eq_false_iff_eq.mpr c3
      clear c3
      obtain rfl := Option.some.inj H
      go_enter Tryz.func17, Tryz.ntmps17
      go_wp2
      go_ret
      exact ⟨by first | rfl | (simp; done) | (simp [*]; done), by repeat (first | exact Drawn0.refl _ | apply Drawn0.step)⟩
    · rw [if_neg c3] at H
      have c3b0 : (a0 == 18) = false := beq_eq_false_iff_ne.mpr c3
      have c3b1 : (a0 != 18) = true := bne_iff_ne.mpr c3
      obtain rfl := Option.some.inj H
      go_enter Tryz.func17, Tryz.ntmps17
      go_wp2
      go_ret
      exact ⟨by first | rfl | (simp; done) | (simp [*]; done), by repeat (first | exact Drawn0.refl _ | apply Drawn0.step)⟩

/-! ### scrimlaw08_awake: function 4 -/
def scrimlaw08_awake.f  : Option (Bool) := (value_Read.f 2 (⟨#[32, 49, 46, 53, 80, 88, 32]⟩ : ByteArray)).bind fun bt101 => ((value_Read.f 2 (⟨#[53, 48, 37]⟩ : ByteArray)).bind fun bt105 => ((value_Read.f 2 (⟨#[45, 49, 112, 120]⟩ : ByteArray)).bind fun bt109 => ((value_Read.f 16 (⟨#[103, 114, 101, 101, 110]⟩ : ByteArray)).bind fun bt113 => (if (bt101.1 == 2 && (bt101.2.1 == 96)) = true then (if bt101.2.2 = true then (if (bt105.1 == 3 && (bt105.2.1 == 3200)) = true then (if bt105.2.2 = true then (if bt109.2.2 = true then (some false) else (if bt113.2.1 = 32768 then (if bt113.2.2 = true then ((value_Prop.f (⟨#[111, 114, 100, 101, 114]⟩ : ByteArray)).bind fun t117 => (if t117 = 24 then ((value_Name.f 7).bind fun t118 => (if t118.toList = ([109, 97, 114, 103, 105, 110, 45, 108, 101, 102, 116] : List UInt8) then ((value_May.f 26 2 (-1)).bind fun t119 => (if t119 = true then ((value_Print.f 2 bt101.1 bt101.2.1).bind fun t120 => (if t120.toList = ([49, 46, 53, 112, 120] : List UInt8) then ((value_First.f 18).bind fun bt121 => (if bt121.2 = 1024 then ((value_Passed.f 16).bind fun t123 => (if t123 = true then ((value_Passed.f 2).bind fun t124 => (if t124 = true then (some false) else (some true))) else (some false))) else (some false))) else (some false))) else (some false))) else (some false))) else (some false))) else (some false)) else (some false))) else (some false)) else (some false)) else (some false)) else (some false)))))
set_option maxHeartbeats 8000000 in
set_option maxRecDepth 100000 in
theorem scrimlaw08_awake.calls  (r : Bool) (hrt : r = true) (w : World) (h : scrimlaw08_awake.f  = some r) (hmx : Go.Proofs.Val.Tbs w) :
    Calls Tryz.prog 4 #[] w fun e w' => e = .returned (.bool r) ∧ Below w.heap.size w w' := by
  have hfd0 : ∀ (a b : Int) (w : World), (Go.Instr.field 23 (.agg #[.int .i64 a, .int .i64 b]) 0).run Tryz.prog w = .ok (.int .i64 a) w := fun a b w => by kernel_rfl
  have hfd1 : ∀ (a b : Int) (w : World), (Go.Instr.field 23 (.agg #[.int .i64 a, .int .i64 b]) 1).run Tryz.prog w = .ok (.int .i64 b) w := fun a b w => by kernel_rfl
  have HMX := Aside0.mk hmx
  clear hmx
  have hu23 := Tryz.underlying23
  have HB := Aside0.mk (Below.refl w.heap.size w)
  have H : ((value_Read.f 2 (⟨#[32, 49, 46, 53, 80, 88, 32]⟩ : ByteArray)).bind fun bt101 => ((value_Read.f 2 (⟨#[53, 48, 37]⟩ : ByteArray)).bind fun bt105 => ((value_Read.f 2 (⟨#[45, 49, 112, 120]⟩ : ByteArray)).bind fun bt109 => ((value_Read.f 16 (⟨#[103, 114, 101, 101, 110]⟩ : ByteArray)).bind fun bt113 => (if (bt101.1 == 2 && (bt101.2.1 == 96)) = true then (if bt101.2.2 = true then (if (bt105.1 == 3 && (bt105.2.1 == 3200)) = true then (if bt105.2.2 = true then (if bt109.2.2 = true then (some false) else (if bt113.2.1 = 32768 then (if bt113.2.2 = true then ((value_Prop.f (⟨#[111, 114, 100, 101, 114]⟩ : ByteArray)).bind fun t117 => (if t117 = 24 then ((value_Name.f 7).bind fun t118 => (if t118.toList = ([109, 97, 114, 103, 105, 110, 45, 108, 101, 102, 116] : List UInt8) then ((value_May.f 26 2 (-1)).bind fun t119 => (if t119 = true then ((value_Print.f 2 bt101.1 bt101.2.1).bind fun t120 => (if t120.toList = ([49, 46, 53, 112, 120] : List UInt8) then ((value_First.f 18).bind fun bt121 => (if bt121.2 = 1024 then ((value_Passed.f 16).bind fun t123 => (if t123 = true then ((value_Passed.f 2).bind fun t124 => (if t124 = true then (some false) else (some true))) else (some false))) else (some false))) else (some false))) else (some false))) else (some false))) else (some false))) else (some false)) else (some false))) else (some false)) else (some false)) else (some false)) else (some false)))))) = some r := h
  clear h
  replace H := Option.bind_eq_some_iff.mp H
  obtain ⟨⟨t101, t102, t103⟩, A10, H⟩ := H
  replace H : ((value_Read.f 2 (⟨#[53, 48, 37]⟩ : ByteArray)).bind fun bt105 => ((value_Read.f 2 (⟨#[45, 49, 112, 120]⟩ : ByteArray)).bind fun bt109 => ((value_Read.f 16 (⟨#[103, 114, 101, 101, 110]⟩ : ByteArray)).bind fun bt113 => (if (t101 == 2 && (t102 == 96)) = true then (if t103 = true then (if (bt105.1 == 3 && (bt105.2.1 == 3200)) = true then (if bt105.2.2 = true then (if bt109.2.2 = true then (some false) else (if bt113.2.1 = 32768 then (if bt113.2.2 = true then ((value_Prop.f (⟨#[111, 114, 100, 101, 114]⟩ : ByteArray)).bind fun t117 => (if t117 = 24 then ((value_Name.f 7).bind fun t118 => (if t118.toList = ([109, 97, 114, 103, 105, 110, 45, 108, 101, 102, 116] : List UInt8) then ((value_May.f 26 2 (-1)).bind fun t119 => (if t119 = true then ((value_Print.f 2 t101 t102).bind fun t120 => (if t120.toList = ([49, 46, 53, 112, 120] : List UInt8) then ((value_First.f 18).bind fun bt121 => (if bt121.2 = 1024 then ((value_Passed.f 16).bind fun t123 => (if t123 = true then ((value_Passed.f 2).bind fun t124 => (if t124 = true then (some false) else (some true))) else (some false))) else (some false))) else (some false))) else (some false))) else (some false))) else (some false))) else (some false)) else (some false))) else (some false)) else (some false)) else (some false)) else (some false))))) = some r := H
  have A1 := Aside0.mk A10
  clear A10
  replace H := Option.bind_eq_some_iff.mp H
  obtain ⟨⟨t105, t106, t107⟩, A20, H⟩ := H
  replace H : ((value_Read.f 2 (⟨#[45, 49, 112, 120]⟩ : ByteArray)).bind fun bt109 => ((value_Read.f 16 (⟨#[103, 114, 101, 101, 110]⟩ : ByteArray)).bind fun bt113 => (if (t101 == 2 && (t102 == 96)) = true then (if t103 = true then (if (t105 == 3 && (t106 == 3200)) = true then (if t107 = true then (if bt109.2.2 = true then (some false) else (if bt113.2.1 = 32768 then (if bt113.2.2 = true then ((value_Prop.f (⟨#[111, 114, 100, 101, 114]⟩ : ByteArray)).bind fun t117 => (if t117 = 24 then ((value_Name.f 7).bind fun t118 => (if t118.toList = ([109, 97, 114, 103, 105, 110, 45, 108, 101, 102, 116] : List UInt8) then ((value_May.f 26 2 (-1)).bind fun t119 => (if t119 = true then ((value_Print.f 2 t101 t102).bind fun t120 => (if t120.toList = ([49, 46, 53, 112, 120] : List UInt8) then ((value_First.f 18).bind fun bt121 => (if bt121.2 = 1024 then ((value_Passed.f 16).bind fun t123 => (if t123 = true then ((value_Passed.f 2).bind fun t124 => (if t124 = true then (some false) else (some true))) else (some false))) else (some false))) else (some false))) else (some false))) else (some false))) else (some false))) else (some false)) else (some false))) else (some false)) else (some false)) else (some false)) else (some false)))) = some r := H
  have A2 := Aside0.mk A20
  clear A20
  replace H := Option.bind_eq_some_iff.mp H
  obtain ⟨⟨t109, t110, t111⟩, A30, H⟩ := H
  replace H : ((value_Read.f 16 (⟨#[103, 114, 101, 101, 110]⟩ : ByteArray)).bind fun bt113 => (if (t101 == 2 && (t102 == 96)) = true then (if t103 = true then (if (t105 == 3 && (t106 == 3200)) = true then (if t107 = true then (if t111 = true then (some false) else (if bt113.2.1 = 32768 then (if bt113.2.2 = true then ((value_Prop.f (⟨#[111, 114, 100, 101, 114]⟩ : ByteArray)).bind fun t117 => (if t117 = 24 then ((value_Name.f 7).bind fun t118 => (if t118.toList = ([109, 97, 114, 103, 105, 110, 45, 108, 101, 102, 116] : List UInt8) then ((value_May.f 26 2 (-1)).bind fun t119 => (if t119 = true then ((value_Print.f 2 t101 t102).bind fun t120 => (if t120.toList = ([49, 46, 53, 112, 120] : List UInt8) then ((value_First.f 18).bind fun bt121 => (if bt121.2 = 1024 then ((value_Passed.f 16).bind fun t123 => (if t123 = true then ((value_Passed.f 2).bind fun t124 => (if t124 = true then (some false) else (some true))) else (some false))) else (some false))) else (some false))) else (some false))) else (some false))) else (some false))) else (some false)) else (some false))) else (some false)) else (some false)) else (some false)) else (some false))) = some r := H
  have A3 := Aside0.mk A30
  clear A30
  replace H := Option.bind_eq_some_iff.mp H
  obtain ⟨⟨t113, t114, t115⟩, A40, H⟩ := H
  replace H : (if (t101 == 2 && (t102 == 96)) = true then (if t103 = true then (if (t105 == 3 && (t106 == 3200)) = true then (if t107 = true then (if t111 = true then (some false) else (if t114 = 32768 then (if t115 = true then ((value_Prop.f (⟨#[111, 114, 100, 101, 114]⟩ : ByteArray)).bind fun t117 => (if t117 = 24 then ((value_Name.f 7).bind fun t118 => (if t118.toList = ([109, 97, 114, 103, 105, 110, 45, 108, 101, 102, 116] : List UInt8) then ((value_May.f 26 2 (-1)).bind fun t119 => (if t119 = true then ((value_Print.f 2 t101 t102).bind fun t120 => (if t120.toList = ([49, 46, 53, 112, 120] : List UInt8) then ((value_First.f 18).bind fun bt121 => (if bt121.2 = 1024 then ((value_Passed.f 16).bind fun t123 => (if t123 = true then ((value_Passed.f 2).bind fun t124 => (if t124 = true then (some false) else (some true))) else (some false))) else (some false))) else (some false))) else (some false))) else (some false))) else (some false))) else (some false)) else (some false))) else (some false)) else (some false)) else (some false)) else (some false)) = some r := H
  have A4 := Aside0.mk A40
  clear A40
  by_cases c5 : (t101 == 2 && (t102 == 96)) = true
  · rw [if_pos c5] at H
    have c5b0 : (t101 == 2 && (t102 == 96)) = true := c5
    (try (have c5b1 : decide (t101 = 2 && (t102 == 96)) = true := by simpa using c5))
    (try (have c5b2 : (t101 == 2 && (t102 == 96)) = true := by simpa using c5))
    clear c5
    by_cases c6 : t103 = true
    · subst c6
      have H1 : (if (t105 == 3 && (t106 == 3200)) = true then (if t107 = true then (if t111 = true then (some false) else (if t114 = 32768 then (if t115 = true then ((value_Prop.f (⟨#[111, 114, 100, 101, 114]⟩ : ByteArray)).bind fun t117 => (if t117 = 24 then ((value_Name.f 7).bind fun t118 => (if t118.toList = ([109, 97, 114, 103, 105, 110, 45, 108, 101, 102, 116] : List UInt8) then ((value_May.f 26 2 (-1)).bind fun t119 => (if t119 = true then ((value_Print.f 2 t101 t102).bind fun t120 => (if t120.toList = ([49, 46, 53, 112, 120] : List UInt8) then ((value_First.f 18).bind fun bt121 => (if bt121.2 = 1024 then ((value_Passed.f 16).bind fun t123 => (if t123 = true then ((value_Passed.f 2).bind fun t124 => (if t124 = true then (some false) else (some true))) else (some false))) else (some false))) else (some false))) else (some false))) else (some false))) else (some false))) else (some false)) else (some false))) else (some false)) else (some false)) = some r := by rw [if_pos rfl] at H; exact H
      clear H
      have H := H1
      clear H1
      by_cases c7 : (t105 == 3 && (t106 == 3200)) = true
      · rw [if_pos c7] at H
        have c7b0 : (t105 == 3 && (t106 == 3200)) = true := c7
        (try (have c7b1 : decide (t105 = 3 && (t106 == 3200)) = true := by simpa using c7))
        (try (have c7b2 : (t105 == 3 && (t106 == 3200)) = true := by simpa using c7))
        clear c7
        by_cases c8 : t107 = true
        · subst c8
          have H1 : (if t111 = true then (some false) else (if t114 = 32768 then (if t115 = true then ((value_Prop.f (⟨#[111, 114, 100, 101, 114]⟩ : ByteArray)).bind fun t117 => (if t117 = 24 then ((value_Name.f 7).bind fun t118 => (if t118.toList = ([109, 97, 114, 103, 105, 110, 45, 108, 101, 102, 116] : List UInt8) then ((value_May.f 26 2 (-1)).bind fun t119 => (if t119 = true then ((value_Print.f 2 t101 t102).bind fun t120 => (if t120.toList = ([49, 46, 53, 112, 120] : List UInt8) then ((value_First.f 18).bind fun bt121 => (if bt121.2 = 1024 then ((value_Passed.f 16).bind fun t123 => (if t123 = true then ((value_Passed.f 2).bind fun t124 => (if t124 = true then (some false) else (some true))) else (some false))) else (some false))) else (some false))) else (some false))) else (some false))) else (some false))) else (some false)) else (some false))) = some r := by rw [if_pos rfl] at H; exact H
          clear H
          have H := H1
          clear H1
          by_cases c9 : t111 = true
          · subst c9
            have H1 : (some false) = some r := by rw [if_pos rfl] at H; exact H
            clear H
            have H := H1
            clear H1
            exact absurd ((Option.some.inj H).trans hrt) (by decide)
          · replace c9 := Bool.eq_false_iff.mpr c9
            subst c9
            have H1 : (if t114 = 32768 then (if t115 = true then ((value_Prop.f (⟨#[111, 114, 100, 101, 114]⟩ : ByteArray)).bind fun t117 => (if t117 = 24 then ((value_Name.f 7).bind fun t118 => (if t118.toList = ([109, 97, 114, 103, 105, 110, 45, 108, 101, 102, 116] : List UInt8) then ((value_May.f 26 2 (-1)).bind fun t119 => (if t119 = true then ((value_Print.f 2 t101 t102).bind fun t120 => (if t120.toList = ([49, 46, 53, 112, 120] : List UInt8) then ((value_First.f 18).bind fun bt121 => (if bt121.2 = 1024 then ((value_Passed.f 16).bind fun t123 => (if t123 = true then ((value_Passed.f 2).bind fun t124 => (if t124 = true then (some false) else (some true))) else (some false))) else (some false))) else (some false))) else (some false))) else (some false))) else (some false))) else (some false)) else (some false)) = some r := by rw [if_neg (show ¬ (false = true) by decide)] at H; exact H
            clear H
            have H := H1
            clear H1
            by_cases c30 : t114 = 32768
            · rw [if_pos c30] at H
              have c30b0 : (t114 == 32768) = true := beq_iff_eq.mpr c30
              have c30b1 : (t114 != 32768) = false := bne_eq_false_iff_eq.mpr c30
              clear c30
              by_cases c31 : t115 = true
              · subst c31
                have H1 : ((value_Prop.f (⟨#[111, 114, 100, 101, 114]⟩ : ByteArray)).bind fun t117 => (if t117 = 24 then ((value_Name.f 7).bind fun t118 => (if t118.toList = ([109, 97, 114, 103, 105, 110, 45, 108, 101, 102, 116] : List UInt8) then ((value_May.f 26 2 (-1)).bind fun t119 => (if t119 = true then ((value_Print.f 2 t101 t102).bind fun t120 => (if t120.toList = ([49, 46, 53, 112, 120] : List UInt8) then ((value_First.f 18).bind fun bt121 => (if bt121.2 = 1024 then ((value_Passed.f 16).bind fun t123 => (if t123 = true then ((value_Passed.f 2).bind fun t124 => (if t124 = true then (some false) else (some true))) else (some false))) else (some false))) else (some false))) else (some false))) else (some false))) else (some false))) = some r := by rw [if_pos rfl] at H; exact H
                clear H
                have H := H1
                clear H1
                replace H := Option.bind_eq_some_iff.mp H
                obtain ⟨t117, A320, H⟩ := H
                replace H : (if t117 = 24 then ((value_Name.f 7).bind fun t118 => (if t118.toList = ([109, 97, 114, 103, 105, 110, 45, 108, 101, 102, 116] : List UInt8) then ((value_May.f 26 2 (-1)).bind fun t119 => (if t119 = true then ((value_Print.f 2 t101 t102).bind fun t120 => (if t120.toList = ([49, 46, 53, 112, 120] : List UInt8) then ((value_First.f 18).bind fun bt121 => (if bt121.2 = 1024 then ((value_Passed.f 16).bind fun t123 => (if t123 = true then ((value_Passed.f 2).bind fun t124 => (if t124 = true then (some false) else (some true))) else (some false))) else (some false))) else (some false))) else (some false))) else (some false))) else (some false)) = some r := H
                have A32 := Aside0.mk A320
                clear A320
                by_cases c33 : t117 = 24
                · rw [if_pos c33] at H
                  have c33b0 : (t117 == 24) = true := beq_iff_eq.mpr c33
                  have c33b1 : (t117 != 24) = false := bne_eq_false_iff_eq.mpr c33
                  clear c33
                  replace H := Option.bind_eq_some_iff.mp H
                  obtain ⟨t118, A340, H⟩ := H
                  replace H : (if t118.toList = ([109, 97, 114, 103, 105, 110, 45, 108, 101, 102, 116] : List UInt8) then ((value_May.f 26 2 (-1)).bind fun t119 => (if t119 = true then ((value_Print.f 2 t101 t102).bind fun t120 => (if t120.toList = ([49, 46, 53, 112, 120] : List UInt8) then ((value_First.f 18).bind fun bt121 => (if bt121.2 = 1024 then ((value_Passed.f 16).bind fun t123 => (if t123 = true then ((value_Passed.f 2).bind fun t124 => (if t124 = true then (some false) else (some true))) else (some false))) else (some false))) else (some false))) else (some false))) else (some false)) = some r := H
                  have A34 := Aside0.mk A340
                  clear A340
                  by_cases c35 : t118.toList = ([109, 97, 114, 103, 105, 110, 45, 108, 101, 102, 116] : List UInt8)
                  · rw [if_pos c35] at H
                    have c35b0 : (t118.toList == ([109, 97, 114, 103, 105, 110, 45, 108, 101, 102, 116] : List UInt8)) = true := beq_iff_eq.mpr c35
                    have c35b1 : (t118.toList != ([109, 97, 114, 103, 105, 110, 45, 108, 101, 102, 116] : List UInt8)) = false := bne_eq_false_iff_eq.mpr c35
                    clear c35
                    replace H := Option.bind_eq_some_iff.mp H
                    obtain ⟨t119, A360, H⟩ := H
                    replace H : (if t119 = true then ((value_Print.f 2 t101 t102).bind fun t120 => (if t120.toList = ([49, 46, 53, 112, 120] : List UInt8) then ((value_First.f 18).bind fun bt121 => (if bt121.2 = 1024 then ((value_Passed.f 16).bind fun t123 => (if t123 = true then ((value_Passed.f 2).bind fun t124 => (if t124 = true then (some false) else (some true))) else (some false))) else (some false))) else (some false))) else (some false)) = some r := H
                    have A36 := Aside0.mk A360
                    clear A360
                    by_cases c37 : t119 = true
                    · subst c37
                      have H1 : ((value_Print.f 2 t101 t102).bind fun t120 => (if t120.toList = ([49, 46, 53, 112, 120] : List UInt8) then ((value_First.f 18).bind fun bt121 => (if bt121.2 = 1024 then ((value_Passed.f 16).bind fun t123 => (if t123 = true then ((value_Passed.f 2).bind fun t124 => (if t124 = true then (some false) else (some true))) else (some false))) else (some false))) else (some false))) = some r := by rw [if_pos rfl] at H; exact H
                      clear H
                      have H := H1
                      clear H1
                      replace H := Option.bind_eq_some_iff.mp H
                      obtain ⟨t120, A380, H⟩ := H
                      replace H : (if t120.toList = ([49, 46, 53, 112, 120] : List UInt8) then ((value_First.f 18).bind fun bt121 => (if bt121.2 = 1024 then ((value_Passed.f 16).bind fun t123 => (if t123 = true then ((value_Passed.f 2).bind fun t124 => (if t124 = true then (some false) else (some true))) else (some false))) else (some false))) else (some false)) = some r := H
                      have A38 := Aside0.mk A380
                      clear A380
                      by_cases c39 : t120.toList = ([49, 46, 53, 112, 120] : List UInt8)
                      · rw [if_pos c39] at H
                        have c39b0 : (t120.toList == ([49, 46, 53, 112, 120] : List UInt8)) = true := beq_iff_eq.mpr c39
                        have c39b1 : (t120.toList != ([49, 46, 53, 112, 120] : List UInt8)) = false := bne_eq_false_iff_eq.mpr c39
                        clear c39
                        replace H := Option.bind_eq_some_iff.mp H
                        obtain ⟨⟨t121, t122⟩, A400, H⟩ := H
                        replace H : (if t122 = 1024 then ((value_Passed.f 16).bind fun t123 => (if t123 = true then ((value_Passed.f 2).bind fun t124 => (if t124 = true then (some false) else (some true))) else (some false))) else (some false)) = some r := H
                        have A40 := Aside0.mk A400
                        clear A400
                        by_cases c41 : t122 = 1024
                        · rw [if_pos c41] at H
                          have c41b0 : (t122 == 1024) = true := beq_iff_eq.mpr c41
                          have c41b1 : (t122 != 1024) = false := bne_eq_false_iff_eq.mpr c41
                          clear c41
                          replace H := Option.bind_eq_some_iff.mp H
                          obtain ⟨t123, A420, H⟩ := H
                          replace H : (if t123 = true then ((value_Passed.f 2).bind fun t124 => (if t124 = true then (some false) else (some true))) else (some false)) = some r := H
                          have A42 := Aside0.mk A420
                          clear A420
                          by_cases c43 : t123 = true
                          · subst c43
                            have H1 : ((value_Passed.f 2).bind fun t124 => (if t124 = true then (some false) else (some true))) = some r := by rw [if_pos rfl] at H; exact H
                            clear H
                            have H := H1
                            clear H1
                            replace H := Option.bind_eq_some_iff.mp H
                            obtain ⟨t124, A440, H⟩ := H
                            replace H : (if t124 = true then (some false) else (some true)) = some r := H
                            have A44 := Aside0.mk A440
                            clear A440
                            by_cases c45 : t124 = true
                            · subst c45
                              have H1 : (some false) = some r := by rw [if_pos rfl] at H; exact H
                              clear H
                              have H := H1
                              clear H1
                              exact absurd ((Option.some.inj H).trans hrt) (by decide)
                            · replace c45 := Bool.eq_false_iff.mpr c45
                              subst c45
                              have H1 : (some true) = some r := by rw [if_neg (show ¬ (false = true) by decide)] at H; exact H
                              clear H
                              have H := H1
                              clear H1
                              obtain rfl := Option.some.inj H; clear hrt; try clear H
                              go_enter Tryz.func4, Tryz.ntmps4
                              go_wp2_with (first | ((with_reducible refine gate_callee (f := 5) rfl ?_); refine goesL_ (some 10) rfl rfl Tryz.func5 (by kernel_rfl) rfl #[.int .i64 2, .string (⟨#[32, 49, 46, 53, 80, 88, 32]⟩ : ByteArray)] rfl (by (try simp only [List.map_toArray, List.map_cons, List.map_nil]); first | done | rfl | (simp only [List.length_drop, List.length_take]; rfl)) ?_; (with_reducible refine (value_Read.calls 2 (⟨#[32, 49, 46, 53, 80, 88, 32]⟩ : ByteArray) t101 t102 true _ A1.out).mono ?_); rintro e w72 ⟨rfl, hb⟩; refine ⟨_, rfl, ?_⟩; have n0_ := Aside0.mk (below_step (by repeat (first | (with_reducible first | exact HB.out | apply below_alloc | apply pw_below_drewN | apply below_drew1) | exact HB.out)) hb); clear HB; have HB := n0_; clear n0_; (try clear hb); (try clear hb2); (try clear hk); (try clear hi)) | ((with_reducible refine gate_dst (N := 1) rfl ?_); refine box_event ?hg (N := 1) ?hd (cs := #[.int .i64 0, .int .i64 0]) (t := 23) ?hr ?_; (case hd => rfl); (case hg => rfl); (case hr => first | (go_simp; done) | (go_simp; rfl)); intro gb104 hg w73 hbox hb; have n0_ := Aside0.mk (below_step (by repeat (first | (with_reducible first | exact HB.out | apply below_alloc | apply pw_below_drewN | apply below_drew1) | exact HB.out)) hb); have n1_ := Aside0.mk (hbox); have n2_ := Aside0.mk ((by rw [hg]; exact (below_size (by repeat (first | (with_reducible first | exact HB.out | apply below_alloc | apply pw_below_drewN | apply below_drew1) | exact HB.out))) : w.heap.size ≤ gb104)); have n3_ := Aside0.mk ((by rw [hg]; exact (below_size (by repeat (first | (with_reducible first | exact HB.out | apply below_alloc | apply pw_below_drewN | apply below_drew1) | exact HB.out))) : w.heap.size ≤ gb104)); clear HB; have HB := n0_; have BK104 := n1_; have GW104 := n2_; have GE104 := n3_; clear n0_ n1_ n2_ n3_; clear hb hbox hg; have hcz74_0 : w73.cell? ⟨gb104, 0, none⟩ = some (.int .i64 0) := (blk_cell BK104.out 0).trans rfl; have hcz74_1 : w73.cell? ⟨gb104, 1, none⟩ = some (.int .i64 0) := (blk_cell BK104.out 1).trans rfl; have hfz74_0 := blk_frozen BK104.out 0; have hfz74_1 := blk_frozen BK104.out 1) | ((with_reducible refine gate_callee (f := 5) rfl ?_); refine goesL_ (some 14) rfl rfl Tryz.func5 (by kernel_rfl) rfl #[.int .i64 2, .string (⟨#[53, 48, 37]⟩ : ByteArray)] rfl (by (try simp only [List.map_toArray, List.map_cons, List.map_nil]); first | done | rfl | (simp only [List.length_drop, List.length_take]; rfl)) ?_; (with_reducible refine (value_Read.calls 2 (⟨#[53, 48, 37]⟩ : ByteArray) t105 t106 true _ A2.out).mono ?_); rintro e w75 ⟨rfl, hb⟩; refine ⟨_, rfl, ?_⟩; have n0_ := Aside0.mk (blk_below (g := gb104) (o := .cells #[.int .i64 t101, .int .i64 t102] 23 (0, 0)) (by (with_reducible repeat (first | refine blk_drewN ?_ _ | refine blk_drew ?_ | refine blk_alloc ?_ _)); refine blk_put (cs := #[.int .i64 t101, .int .i64 0]) ?_ 1 _ rfl; (with_reducible repeat (first | refine blk_drewN ?_ _ | refine blk_drew ?_ | refine blk_alloc ?_ _)); refine blk_put (cs := #[.int .i64 0, .int .i64 0]) ?_ 0 _ rfl; (with_reducible repeat (first | refine blk_drewN ?_ _ | refine blk_drew ?_ | refine blk_alloc ?_ _)); exact BK104.out) hb); have n1_ := Aside0.mk (below_step (by repeat (first | (with_reducible first | exact HB.out | apply below_alloc | apply pw_below_drewN | apply below_drew1 | refine below_set ?_ GE104.out) | exact HB.out)) hb); clear BK104; clear HB; have BK104 := n0_; have HB := n1_; clear n0_ n1_; (try clear hb); (try clear hb2); (try clear hk); (try clear hi)) | ((with_reducible refine gate_dst (N := 3) rfl ?_); refine box_event ?hg (N := 3) ?hd (cs := #[.int .i64 0, .int .i64 0]) (t := 23) ?hr ?_; (case hd => rfl); (case hg => rfl); (case hr => first | (go_simp; done) | (go_simp; rfl)); intro gb108 hg w76 hbox hb; have n0_ := Aside0.mk (blk_below (g := gb104) (o := .cells #[.int .i64 t101, .int .i64 t102] 23 (0, 0)) (by (with_reducible repeat (first | refine blk_drewN ?_ _ | refine blk_drew ?_ | refine blk_alloc ?_ _)); exact BK104.out) hb); have n1_ := Aside0.mk (below_step (by repeat (first | (with_reducible first | exact HB.out | apply below_alloc | apply pw_below_drewN | apply below_drew1 | refine below_set ?_ GE104.out) | exact HB.out)) hb); have n2_ := Aside0.mk (hbox); have n3_ := Aside0.mk ((by rw [hg]; exact (below_size (by repeat (first | (with_reducible first | exact HB.out | apply below_alloc | apply pw_below_drewN | apply below_drew1 | refine below_set ?_ GE104.out) | exact HB.out))) : w.heap.size ≤ gb108)); have n4_ := Aside0.mk ((by rw [hg]; exact (below_size (by repeat (first | (with_reducible first | exact HB.out | apply below_alloc | apply pw_below_drewN | apply below_drew1 | refine below_set ?_ GE104.out) | exact HB.out))) : w.heap.size ≤ gb108)); have n5_ := Aside0.mk ((by rw [hg]; exact Nat.ne_of_lt (blk_lt (g := gb104) (o := .cells #[.int .i64 t101, .int .i64 t102] 23 (0, 0)) (by (with_reducible repeat (first | refine blk_drewN ?_ _ | refine blk_drew ?_ | refine blk_alloc ?_ _)); exact BK104.out)) : gb104 ≠ gb108)); have n6_ := Aside0.mk ((by rw [hg]; exact Nat.ne_of_gt (blk_lt (g := gb104) (o := .cells #[.int .i64 t101, .int .i64 t102] 23 (0, 0)) (by (with_reducible repeat (first | refine blk_drewN ?_ _ | refine blk_drew ?_ | refine blk_alloc ?_ _)); exact BK104.out)) : gb108 ≠ gb104)); clear BK104; clear HB; have BK104 := n0_; have HB := n1_; have BK108 := n2_; have GW108 := n3_; have GE108 := n4_; have NB104_108 := n5_; have NB108_104 := n6_; clear n0_ n1_ n2_ n3_ n4_ n5_ n6_; clear hb hbox hg; have hnb77 := NB108_104.out; have hnc77 := NB104_108.out; have hcz78_0 : w76.cell? ⟨gb108, 0, none⟩ = some (.int .i64 0) := (blk_cell BK108.out 0).trans rfl; have hcz78_1 : w76.cell? ⟨gb108, 1, none⟩ = some (.int .i64 0) := (blk_cell BK108.out 1).trans rfl; have hfz78_0 := blk_frozen BK108.out 0; have hfz78_1 := blk_frozen BK108.out 1) | ((with_reducible refine gate_callee (f := 5) rfl ?_); refine goesL_ (some 18) rfl rfl Tryz.func5 (by kernel_rfl) rfl #[.int .i64 2, .string (⟨#[45, 49, 112, 120]⟩ : ByteArray)] rfl (by (try simp only [List.map_toArray, List.map_cons, List.map_nil]); first | done | rfl | (simp only [List.length_drop, List.length_take]; rfl)) ?_; (with_reducible refine (value_Read.calls 2 (⟨#[45, 49, 112, 120]⟩ : ByteArray) t109 t110 false _ A3.out).mono ?_); rintro e w79 ⟨rfl, hb⟩; refine ⟨_, rfl, ?_⟩; have n0_ := Aside0.mk (blk_below (g := gb104) (o := .cells #[.int .i64 t101, .int .i64 t102] 23 (0, 0)) (by (with_reducible repeat (first | refine blk_drewN ?_ _ | refine blk_drew ?_ | refine blk_alloc ?_ _)); refine blk_far ?_ NB104_108.out _; (with_reducible repeat (first | refine blk_drewN ?_ _ | refine blk_drew ?_ | refine blk_alloc ?_ _)); refine blk_far ?_ NB104_108.out _; (with_reducible repeat (first | refine blk_drewN ?_ _ | refine blk_drew ?_ | refine blk_alloc ?_ _)); exact BK104.out) hb); have n1_ := Aside0.mk (blk_below (g := gb108) (o := .cells #[.int .i64 t105, .int .i64 t106] 23 (0, 0)) (by (with_reducible repeat (first | refine blk_drewN ?_ _ | refine blk_drew ?_ | refine blk_alloc ?_ _)); refine blk_put (cs := #[.int .i64 t105, .int .i64 0]) ?_ 1 _ rfl; (with_reducible repeat (first | refine blk_drewN ?_ _ | refine blk_drew ?_ | refine blk_alloc ?_ _)); refine blk_put (cs := #[.int .i64 0, .int .i64 0]) ?_ 0 _ rfl; (with_reducible repeat (first | refine blk_drewN ?_ _ | refine blk_drew ?_ | refine blk_alloc ?_ _)); exact BK108.out) hb); have n2_ := Aside0.mk (below_step (by repeat (first | (with_reducible first | exact HB.out | apply below_alloc | apply pw_below_drewN | apply below_drew1 | refine below_set ?_ GE104.out | refine below_set ?_ GE108.out) | exact HB.out)) hb); clear BK104; clear BK108; clear HB; have BK104 := n0_; have BK108 := n1_; have HB := n2_; clear n0_ n1_ n2_; (try clear hb); (try clear hb2); (try clear hk); (try clear hi)) | ((with_reducible refine gate_dst (N := 5) rfl ?_); refine box_event ?hg (N := 5) ?hd (cs := #[.int .i64 0, .int .i64 0]) (t := 23) ?hr ?_; (case hd => rfl); (case hg => rfl); (case hr => first | (go_simp; done) | (go_simp; rfl)); intro gb112 hg w80 hbox hb; have n0_ := Aside0.mk (blk_below (g := gb104) (o := .cells #[.int .i64 t101, .int .i64 t102] 23 (0, 0)) (by (with_reducible repeat (first | refine blk_drewN ?_ _ | refine blk_drew ?_ | refine blk_alloc ?_ _)); exact BK104.out) hb); have n1_ := Aside0.mk (blk_below (g := gb108) (o := .cells #[.int .i64 t105, .int .i64 t106] 23 (0, 0)) (by (with_reducible repeat (first | refine blk_drewN ?_ _ | refine blk_drew ?_ | refine blk_alloc ?_ _)); exact BK108.out) hb); have n2_ := Aside0.mk (below_step (by repeat (first | (with_reducible first | exact HB.out | apply below_alloc | apply pw_below_drewN | apply below_drew1 | refine below_set ?_ GE104.out | refine below_set ?_ GE108.out) | exact HB.out)) hb); have n3_ := Aside0.mk (hbox); have n4_ := Aside0.mk ((by rw [hg]; exact (below_size (by repeat (first | (with_reducible first | exact HB.out | apply below_alloc | apply pw_below_drewN | apply below_drew1 | refine below_set ?_ GE104.out | refine below_set ?_ GE108.out) | exact HB.out))) : w.heap.size ≤ gb112)); have n5_ := Aside0.mk ((by rw [hg]; exact (below_size (by repeat (first | (with_reducible first | exact HB.out | apply below_alloc | apply pw_below_drewN | apply below_drew1 | refine below_set ?_ GE104.out | refine below_set ?_ GE108.out) | exact HB.out))) : w.heap.size ≤ gb112)); have n6_ := Aside0.mk ((by rw [hg]; exact Nat.ne_of_lt (blk_lt (g := gb104) (o := .cells #[.int .i64 t101, .int .i64 t102] 23 (0, 0)) (by (with_reducible repeat (first | refine blk_drewN ?_ _ | refine blk_drew ?_ | refine blk_alloc ?_ _)); exact BK104.out)) : gb104 ≠ gb112)); have n7_ := Aside0.mk ((by rw [hg]; exact Nat.ne_of_gt (blk_lt (g := gb104) (o := .cells #[.int .i64 t101, .int .i64 t102] 23 (0, 0)) (by (with_reducible repeat (first | refine blk_drewN ?_ _ | refine blk_drew ?_ | refine blk_alloc ?_ _)); exact BK104.out)) : gb112 ≠ gb104)); have n8_ := Aside0.mk ((by rw [hg]; exact Nat.ne_of_lt (blk_lt (g := gb108) (o := .cells #[.int .i64 t105, .int .i64 t106] 23 (0, 0)) (by (with_reducible repeat (first | refine blk_drewN ?_ _ | refine blk_drew ?_ | refine blk_alloc ?_ _)); exact BK108.out)) : gb108 ≠ gb112)); have n9_ := Aside0.mk ((by rw [hg]; exact Nat.ne_of_gt (blk_lt (g := gb108) (o := .cells #[.int .i64 t105, .int .i64 t106] 23 (0, 0)) (by (with_reducible repeat (first | refine blk_drewN ?_ _ | refine blk_drew ?_ | refine blk_alloc ?_ _)); exact BK108.out)) : gb112 ≠ gb108)); clear BK104; clear BK108; clear HB; have BK104 := n0_; have BK108 := n1_; have HB := n2_; have BK112 := n3_; have GW112 := n4_; have GE112 := n5_; have NB104_112 := n6_; have NB112_104 := n7_; have NB108_112 := n8_; have NB112_108 := n9_; clear n0_ n1_ n2_ n3_ n4_ n5_ n6_ n7_ n8_ n9_; clear hb hbox hg; have hnb81 := NB112_104.out; have hnc81 := NB104_112.out; have hnb82 := NB112_108.out; have hnc82 := NB108_112.out; have hcz83_0 : w80.cell? ⟨gb112, 0, none⟩ = some (.int .i64 0) := (blk_cell BK112.out 0).trans rfl; have hcz83_1 : w80.cell? ⟨gb112, 1, none⟩ = some (.int .i64 0) := (blk_cell BK112.out 1).trans rfl; have hfz83_0 := blk_frozen BK112.out 0; have hfz83_1 := blk_frozen BK112.out 1) | ((with_reducible refine gate_callee (f := 5) rfl ?_); refine goesL_ (some 22) rfl rfl Tryz.func5 (by kernel_rfl) rfl #[.int .i64 16, .string (⟨#[103, 114, 101, 101, 110]⟩ : ByteArray)] rfl (by (try simp only [List.map_toArray, List.map_cons, List.map_nil]); first | done | rfl | (simp only [List.length_drop, List.length_take]; rfl)) ?_; (with_reducible refine (value_Read.calls 16 (⟨#[103, 114, 101, 101, 110]⟩ : ByteArray) t113 t114 true _ A4.out).mono ?_); rintro e w84 ⟨rfl, hb⟩; refine ⟨_, rfl, ?_⟩; have n0_ := Aside0.mk (blk_below (g := gb104) (o := .cells #[.int .i64 t101, .int .i64 t102] 23 (0, 0)) (by (with_reducible repeat (first | refine blk_drewN ?_ _ | refine blk_drew ?_ | refine blk_alloc ?_ _)); refine blk_far ?_ NB104_112.out _; (with_reducible repeat (first | refine blk_drewN ?_ _ | refine blk_drew ?_ | refine blk_alloc ?_ _)); refine blk_far ?_ NB104_112.out _; (with_reducible repeat (first | refine blk_drewN ?_ _ | refine blk_drew ?_ | refine blk_alloc ?_ _)); exact BK104.out) hb); have n1_ := Aside0.mk (blk_below (g := gb108) (o := .cells #[.int .i64 t105, .int .i64 t106] 23 (0, 0)) (by (with_reducible repeat (first | refine blk_drewN ?_ _ | refine blk_drew ?_ | refine blk_alloc ?_ _)); refine blk_far ?_ NB108_112.out _; (with_reducible repeat (first | refine blk_drewN ?_ _ | refine blk_drew ?_ | refine blk_alloc ?_ _)); refine blk_far ?_ NB108_112.out _; (with_reducible repeat (first | refine blk_drewN ?_ _ | refine blk_drew ?_ | refine blk_alloc ?_ _)); exact BK108.out) hb); have n2_ := Aside0.mk (blk_below (g := gb112) (o := .cells #[.int .i64 t109, .int .i64 t110] 23 (0, 0)) (by (with_reducible repeat (first | refine blk_drewN ?_ _ | refine blk_drew ?_ | refine blk_alloc ?_ _)); refine blk_put (cs := #[.int .i64 t109, .int .i64 0]) ?_ 1 _ rfl; (with_reducible repeat (first | refine blk_drewN ?_ _ | refine blk_drew ?_ | refine blk_alloc ?_ _)); refine blk_put (cs := #[.int .i64 0, .int .i64 0]) ?_ 0 _ rfl; (with_reducible repeat (first | refine blk_drewN ?_ _ | refine blk_drew ?_ | refine blk_alloc ?_ _)); exact BK112.out) hb); have n3_ := Aside0.mk (below_step (by repeat (first | (with_reducible first | exact HB.out | apply below_alloc | apply pw_below_drewN | apply below_drew1 | refine below_set ?_ GE104.out | refine below_set ?_ GE108.out | refine below_set ?_ GE112.out) | exact HB.out)) hb); clear BK104; clear BK108; clear BK112; clear HB; have BK104 := n0_; have BK108 := n1_; have BK112 := n2_; have HB := n3_; clear n0_ n1_ n2_ n3_; (try clear hb); (try clear hb2); (try clear hk); (try clear hi)) | ((with_reducible refine gate_dst (N := 7) rfl ?_); refine box_event ?hg (N := 7) ?hd (cs := #[.int .i64 0, .int .i64 0]) (t := 23) ?hr ?_; (case hd => rfl); (case hg => rfl); (case hr => first | (go_simp; done) | (go_simp; rfl)); intro gb116 hg w85 hbox hb; have n0_ := Aside0.mk (blk_below (g := gb104) (o := .cells #[.int .i64 t101, .int .i64 t102] 23 (0, 0)) (by (with_reducible repeat (first | refine blk_drewN ?_ _ | refine blk_drew ?_ | refine blk_alloc ?_ _)); exact BK104.out) hb); have n1_ := Aside0.mk (blk_below (g := gb108) (o := .cells #[.int .i64 t105, .int .i64 t106] 23 (0, 0)) (by (with_reducible repeat (first | refine blk_drewN ?_ _ | refine blk_drew ?_ | refine blk_alloc ?_ _)); exact BK108.out) hb); have n2_ := Aside0.mk (blk_below (g := gb112) (o := .cells #[.int .i64 t109, .int .i64 t110] 23 (0, 0)) (by (with_reducible repeat (first | refine blk_drewN ?_ _ | refine blk_drew ?_ | refine blk_alloc ?_ _)); exact BK112.out) hb); have n3_ := Aside0.mk (below_step (by repeat (first | (with_reducible first | exact HB.out | apply below_alloc | apply pw_below_drewN | apply below_drew1 | refine below_set ?_ GE104.out | refine below_set ?_ GE108.out | refine below_set ?_ GE112.out) | exact HB.out)) hb); have n4_ := Aside0.mk (hbox); have n5_ := Aside0.mk ((by rw [hg]; exact (below_size (by repeat (first | (with_reducible first | exact HB.out | apply below_alloc | apply pw_below_drewN | apply below_drew1 | refine below_set ?_ GE104.out | refine below_set ?_ GE108.out | refine below_set ?_ GE112.out) | exact HB.out))) : w.heap.size ≤ gb116)); have n6_ := Aside0.mk ((by rw [hg]; exact (below_size (by repeat (first | (with_reducible first | exact HB.out | apply below_alloc | apply pw_below_drewN | apply below_drew1 | refine below_set ?_ GE104.out | refine below_set ?_ GE108.out | refine below_set ?_ GE112.out) | exact HB.out))) : w.heap.size ≤ gb116)); have n7_ := Aside0.mk ((by rw [hg]; exact Nat.ne_of_lt (blk_lt (g := gb104) (o := .cells #[.int .i64 t101, .int .i64 t102] 23 (0, 0)) (by (with_reducible repeat (first | refine blk_drewN ?_ _ | refine blk_drew ?_ | refine blk_alloc ?_ _)); exact BK104.out)) : gb104 ≠ gb116)); have n8_ := Aside0.mk ((by rw [hg]; exact Nat.ne_of_gt (blk_lt (g := gb104) (o := .cells #[.int .i64 t101, .int .i64 t102] 23 (0, 0)) (by (with_reducible repeat (first | refine blk_drewN ?_ _ | refine blk_drew ?_ | refine blk_alloc ?_ _)); exact BK104.out)) : gb116 ≠ gb104)); have n9_ := Aside0.mk ((by rw [hg]; exact Nat.ne_of_lt (blk_lt (g := gb108) (o := .cells #[.int .i64 t105, .int .i64 t106] 23 (0, 0)) (by (with_reducible repeat (first | refine blk_drewN ?_ _ | refine blk_drew ?_ | refine blk_alloc ?_ _)); exact BK108.out)) : gb108 ≠ gb116)); have n10_ := Aside0.mk ((by rw [hg]; exact Nat.ne_of_gt (blk_lt (g := gb108) (o := .cells #[.int .i64 t105, .int .i64 t106] 23 (0, 0)) (by (with_reducible repeat (first | refine blk_drewN ?_ _ | refine blk_drew ?_ | refine blk_alloc ?_ _)); exact BK108.out)) : gb116 ≠ gb108)); have n11_ := Aside0.mk ((by rw [hg]; exact Nat.ne_of_lt (blk_lt (g := gb112) (o := .cells #[.int .i64 t109, .int .i64 t110] 23 (0, 0)) (by (with_reducible repeat (first | refine blk_drewN ?_ _ | refine blk_drew ?_ | refine blk_alloc ?_ _)); exact BK112.out)) : gb112 ≠ gb116)); have n12_ := Aside0.mk ((by rw [hg]; exact Nat.ne_of_gt (blk_lt (g := gb112) (o := .cells #[.int .i64 t109, .int .i64 t110] 23 (0, 0)) (by (with_reducible repeat (first | refine blk_drewN ?_ _ | refine blk_drew ?_ | refine blk_alloc ?_ _)); exact BK112.out)) : gb116 ≠ gb112)); clear BK104; clear BK108; clear BK112; clear HB; have BK104 := n0_; have BK108 := n1_; have BK112 := n2_; have HB := n3_; have BK116 := n4_; have GW116 := n5_; have GE116 := n6_; have NB104_116 := n7_; have NB116_104 := n8_; have NB108_116 := n9_; have NB116_108 := n10_; have NB112_116 := n11_; have NB116_112 := n12_; clear n0_ n1_ n2_ n3_ n4_ n5_ n6_ n7_ n8_ n9_ n10_ n11_ n12_; clear hb hbox hg; have hnb86 := NB116_104.out; have hnc86 := NB104_116.out; have hnb87 := NB116_108.out; have hnc87 := NB108_116.out; have hnb88 := NB116_112.out; have hnc88 := NB112_116.out; have hcz89_0 : w85.cell? ⟨gb116, 0, none⟩ = some (.int .i64 0) := (blk_cell BK116.out 0).trans rfl; have hcz89_1 : w85.cell? ⟨gb116, 1, none⟩ = some (.int .i64 0) := (blk_cell BK116.out 1).trans rfl; have hfz89_0 := blk_frozen BK116.out 0; have hfz89_1 := blk_frozen BK116.out 1; have hcz90_0 : w85.cell? ⟨gb104, 0, none⟩ = some (.int .i64 t101) := (blk_cell BK104.out 0).trans rfl; have hcz90_1 : w85.cell? ⟨gb104, 1, none⟩ = some (.int .i64 t102) := (blk_cell BK104.out 1).trans rfl; have hfz90_0 := blk_frozen BK104.out 0; have hfz90_1 := blk_frozen BK104.out 1; have hcz91_0 : w85.cell? ⟨gb108, 0, none⟩ = some (.int .i64 t105) := (blk_cell BK108.out 0).trans rfl; have hcz91_1 : w85.cell? ⟨gb108, 1, none⟩ = some (.int .i64 t106) := (blk_cell BK108.out 1).trans rfl; have hfz91_0 := blk_frozen BK108.out 0; have hfz91_1 := blk_frozen BK108.out 1) | (go_at_call 7; (with_reducible refine (value_Prop.calls (⟨#[111, 114, 100, 101, 114]⟩ : ByteArray) t117 _ A32.out).mono ?_); rintro e w92 ⟨rfl, hb⟩; have n0_ := Aside0.mk (blk_below (g := gb104) (o := .cells #[.int .i64 t101, .int .i64 t102] 23 (0, 0)) (by (with_reducible repeat (first | refine blk_drewN ?_ _ | refine blk_drew ?_ | refine blk_alloc ?_ _)); refine blk_far ?_ NB104_116.out _; (with_reducible repeat (first | refine blk_drewN ?_ _ | refine blk_drew ?_ | refine blk_alloc ?_ _)); refine blk_far ?_ NB104_116.out _; (with_reducible repeat (first | refine blk_drewN ?_ _ | refine blk_drew ?_ | refine blk_alloc ?_ _)); exact BK104.out) hb); have n1_ := Aside0.mk (blk_below (g := gb108) (o := .cells #[.int .i64 t105, .int .i64 t106] 23 (0, 0)) (by (with_reducible repeat (first | refine blk_drewN ?_ _ | refine blk_drew ?_ | refine blk_alloc ?_ _)); refine blk_far ?_ NB108_116.out _; (with_reducible repeat (first | refine blk_drewN ?_ _ | refine blk_drew ?_ | refine blk_alloc ?_ _)); refine blk_far ?_ NB108_116.out _; (with_reducible repeat (first | refine blk_drewN ?_ _ | refine blk_drew ?_ | refine blk_alloc ?_ _)); exact BK108.out) hb); have n2_ := Aside0.mk (blk_below (g := gb112) (o := .cells #[.int .i64 t109, .int .i64 t110] 23 (0, 0)) (by (with_reducible repeat (first | refine blk_drewN ?_ _ | refine blk_drew ?_ | refine blk_alloc ?_ _)); refine blk_far ?_ NB112_116.out _; (with_reducible repeat (first | refine blk_drewN ?_ _ | refine blk_drew ?_ | refine blk_alloc ?_ _)); refine blk_far ?_ NB112_116.out _; (with_reducible repeat (first | refine blk_drewN ?_ _ | refine blk_drew ?_ | refine blk_alloc ?_ _)); exact BK112.out) hb); have n3_ := Aside0.mk (blk_below (g := gb116) (o := .cells #[.int .i64 t113, .int .i64 t114] 23 (0, 0)) (by (with_reducible repeat (first | refine blk_drewN ?_ _ | refine blk_drew ?_ | refine blk_alloc ?_ _)); refine blk_put (cs := #[.int .i64 t113, .int .i64 0]) ?_ 1 _ rfl; (with_reducible repeat (first | refine blk_drewN ?_ _ | refine blk_drew ?_ | refine blk_alloc ?_ _)); refine blk_put (cs := #[.int .i64 0, .int .i64 0]) ?_ 0 _ rfl; (with_reducible repeat (first | refine blk_drewN ?_ _ | refine blk_drew ?_ | refine blk_alloc ?_ _)); exact BK116.out) hb); have n4_ := Aside0.mk (below_step (by repeat (first | (with_reducible first | exact HB.out | apply below_alloc | apply pw_below_drewN | apply below_drew1 | refine below_set ?_ GE104.out | refine below_set ?_ GE108.out | refine below_set ?_ GE112.out | refine below_set ?_ GE116.out) | exact HB.out)) hb); clear BK104; clear BK108; clear BK112; clear BK116; clear HB; have BK104 := n0_; have BK108 := n1_; have BK112 := n2_; have BK116 := n3_; have HB := n4_; clear n0_ n1_ n2_ n3_ n4_; (try clear hb); (try clear hb2); (try clear hk); (try clear hi)) | (go_at_call 9; (with_reducible refine (value_Name.calls 7 t118 _ A34.out).mono ?_); rintro e w93 ⟨rfl, hb⟩; have n0_ := Aside0.mk (blk_below (g := gb104) (o := .cells #[.int .i64 t101, .int .i64 t102] 23 (0, 0)) (by (with_reducible repeat (first | refine blk_drewN ?_ _ | refine blk_drew ?_ | refine blk_alloc ?_ _)); exact BK104.out) hb); have n1_ := Aside0.mk (blk_below (g := gb108) (o := .cells #[.int .i64 t105, .int .i64 t106] 23 (0, 0)) (by (with_reducible repeat (first | refine blk_drewN ?_ _ | refine blk_drew ?_ | refine blk_alloc ?_ _)); exact BK108.out) hb); have n2_ := Aside0.mk (blk_below (g := gb112) (o := .cells #[.int .i64 t109, .int .i64 t110] 23 (0, 0)) (by (with_reducible repeat (first | refine blk_drewN ?_ _ | refine blk_drew ?_ | refine blk_alloc ?_ _)); exact BK112.out) hb); have n3_ := Aside0.mk (blk_below (g := gb116) (o := .cells #[.int .i64 t113, .int .i64 t114] 23 (0, 0)) (by (with_reducible repeat (first | refine blk_drewN ?_ _ | refine blk_drew ?_ | refine blk_alloc ?_ _)); exact BK116.out) hb); have n4_ := Aside0.mk (below_step (by repeat (first | (with_reducible first | exact HB.out | apply below_alloc | apply pw_below_drewN | apply below_drew1 | refine below_set ?_ GE104.out | refine below_set ?_ GE108.out | refine below_set ?_ GE112.out | refine below_set ?_ GE116.out) | exact HB.out)) hb); clear BK104; clear BK108; clear BK112; clear BK116; clear HB; have BK104 := n0_; have BK108 := n1_; have BK112 := n2_; have BK116 := n3_; have HB := n4_; clear n0_ n1_ n2_ n3_ n4_; (try clear hb); (try clear hb2); (try clear hk); (try clear hi)) | (go_at_call 11; (with_reducible refine (value_May.calls 26 2 (-1) true _ A36.out).mono ?_); rintro e w94 ⟨rfl, hb⟩; have n0_ := Aside0.mk (blk_below (g := gb104) (o := .cells #[.int .i64 t101, .int .i64 t102] 23 (0, 0)) (by (with_reducible repeat (first | refine blk_drewN ?_ _ | refine blk_drew ?_ | refine blk_alloc ?_ _)); exact BK104.out) hb); have n1_ := Aside0.mk (blk_below (g := gb108) (o := .cells #[.int .i64 t105, .int .i64 t106] 23 (0, 0)) (by (with_reducible repeat (first | refine blk_drewN ?_ _ | refine blk_drew ?_ | refine blk_alloc ?_ _)); exact BK108.out) hb); have n2_ := Aside0.mk (blk_below (g := gb112) (o := .cells #[.int .i64 t109, .int .i64 t110] 23 (0, 0)) (by (with_reducible repeat (first | refine blk_drewN ?_ _ | refine blk_drew ?_ | refine blk_alloc ?_ _)); exact BK112.out) hb); have n3_ := Aside0.mk (blk_below (g := gb116) (o := .cells #[.int .i64 t113, .int .i64 t114] 23 (0, 0)) (by (with_reducible repeat (first | refine blk_drewN ?_ _ | refine blk_drew ?_ | refine blk_alloc ?_ _)); exact BK116.out) hb); have n4_ := Aside0.mk (below_step (by repeat (first | (with_reducible first | exact HB.out | apply below_alloc | apply pw_below_drewN | apply below_drew1 | refine below_set ?_ GE104.out | refine below_set ?_ GE108.out | refine below_set ?_ GE112.out | refine below_set ?_ GE116.out) | exact HB.out)) hb); clear BK104; clear BK108; clear BK112; clear BK116; clear HB; have BK104 := n0_; have BK108 := n1_; have BK112 := n2_; have BK116 := n3_; have HB := n4_; clear n0_ n1_ n2_ n3_ n4_; (try clear hb); (try clear hb2); (try clear hk); (try clear hi); have hcz95_0 : w94.cell? ⟨gb104, 0, none⟩ = some (.int .i64 t101) := (blk_cell BK104.out 0).trans rfl; have hcz95_1 : w94.cell? ⟨gb104, 1, none⟩ = some (.int .i64 t102) := (blk_cell BK104.out 1).trans rfl; have hfz95_0 := blk_frozen BK104.out 0; have hfz95_1 := blk_frozen BK104.out 1) | (go_at_call 13; (with_reducible refine (value_Print.calls 2 t101 t102 t120 _ A38.out (HMX.out.below (by repeat (first | (with_reducible first | exact HB.out | apply below_alloc | apply pw_below_drewN | apply below_drew1 | refine below_set ?_ GE104.out | refine below_set ?_ GE108.out | refine below_set ?_ GE112.out | refine below_set ?_ GE116.out) | exact HB.out)))).mono ?_); rintro e w96 ⟨rfl, hb⟩; have n0_ := Aside0.mk (blk_below (g := gb104) (o := .cells #[.int .i64 t101, .int .i64 t102] 23 (0, 0)) (by (with_reducible repeat (first | refine blk_drewN ?_ _ | refine blk_drew ?_ | refine blk_alloc ?_ _)); exact BK104.out) hb); have n1_ := Aside0.mk (blk_below (g := gb108) (o := .cells #[.int .i64 t105, .int .i64 t106] 23 (0, 0)) (by (with_reducible repeat (first | refine blk_drewN ?_ _ | refine blk_drew ?_ | refine blk_alloc ?_ _)); exact BK108.out) hb); have n2_ := Aside0.mk (blk_below (g := gb112) (o := .cells #[.int .i64 t109, .int .i64 t110] 23 (0, 0)) (by (with_reducible repeat (first | refine blk_drewN ?_ _ | refine blk_drew ?_ | refine blk_alloc ?_ _)); exact BK112.out) hb); have n3_ := Aside0.mk (blk_below (g := gb116) (o := .cells #[.int .i64 t113, .int .i64 t114] 23 (0, 0)) (by (with_reducible repeat (first | refine blk_drewN ?_ _ | refine blk_drew ?_ | refine blk_alloc ?_ _)); exact BK116.out) hb); have n4_ := Aside0.mk (below_step (by repeat (first | (with_reducible first | exact HB.out | apply below_alloc | apply pw_below_drewN | apply below_drew1 | refine below_set ?_ GE104.out | refine below_set ?_ GE108.out | refine below_set ?_ GE112.out | refine below_set ?_ GE116.out) | exact HB.out)) hb); clear BK104; clear BK108; clear BK112; clear BK116; clear HB; have BK104 := n0_; have BK108 := n1_; have BK112 := n2_; have BK116 := n3_; have HB := n4_; clear n0_ n1_ n2_ n3_ n4_; (try clear hb); (try clear hb2); (try clear hk); (try clear hi)) | (go_at_call 15; (with_reducible refine (value_First.calls 18 t121 t122 _ A40.out).mono ?_); rintro e w97 ⟨rfl, hb⟩; have n0_ := Aside0.mk (blk_below (g := gb104) (o := .cells #[.int .i64 t101, .int .i64 t102] 23 (0, 0)) (by (with_reducible repeat (first | refine blk_drewN ?_ _ | refine blk_drew ?_ | refine blk_alloc ?_ _)); exact BK104.out) hb); have n1_ := Aside0.mk (blk_below (g := gb108) (o := .cells #[.int .i64 t105, .int .i64 t106] 23 (0, 0)) (by (with_reducible repeat (first | refine blk_drewN ?_ _ | refine blk_drew ?_ | refine blk_alloc ?_ _)); exact BK108.out) hb); have n2_ := Aside0.mk (blk_below (g := gb112) (o := .cells #[.int .i64 t109, .int .i64 t110] 23 (0, 0)) (by (with_reducible repeat (first | refine blk_drewN ?_ _ | refine blk_drew ?_ | refine blk_alloc ?_ _)); exact BK112.out) hb); have n3_ := Aside0.mk (blk_below (g := gb116) (o := .cells #[.int .i64 t113, .int .i64 t114] 23 (0, 0)) (by (with_reducible repeat (first | refine blk_drewN ?_ _ | refine blk_drew ?_ | refine blk_alloc ?_ _)); exact BK116.out) hb); have n4_ := Aside0.mk (below_step (by repeat (first | (with_reducible first | exact HB.out | apply below_alloc | apply pw_below_drewN | apply below_drew1 | refine below_set ?_ GE104.out | refine below_set ?_ GE108.out | refine below_set ?_ GE112.out | refine below_set ?_ GE116.out) | exact HB.out)) hb); clear BK104; clear BK108; clear BK112; clear BK116; clear HB; have BK104 := n0_; have BK108 := n1_; have BK112 := n2_; have BK116 := n3_; have HB := n4_; clear n0_ n1_ n2_ n3_ n4_; (try clear hb); (try clear hb2); (try clear hk); (try clear hi)) | (go_at_call 17; (with_reducible refine (value_Passed.calls 16 true _ A42.out).mono ?_); rintro e w' ⟨rfl, ⟨nd, rfl⟩⟩) | (go_at_call 17; (with_reducible refine (value_Passed.calls 2 false _ A44.out).mono ?_); rintro e w' ⟨rfl, ⟨nd, rfl⟩⟩))
                              go_ret
                              exact ⟨by first | rfl | (simp [errW_none, errW_some] <;> rfl) | (simp [*, errW_none, errW_some] <;> rfl), by repeat (first | (with_reducible first | exact HB.out | apply below_alloc | apply pw_below_drewN | apply below_drew1 | refine below_set ?_ GE104.out | refine below_set ?_ GE108.out | refine below_set ?_ GE112.out | refine below_set ?_ GE116.out) | exact HB.out)⟩
                          · replace c43 := Bool.eq_false_iff.mpr c43
                            subst c43
                            have H1 : (some false) = some r := by rw [if_neg (show ¬ (false = true) by decide)] at H; exact H
                            clear H
                            have H := H1
                            clear H1
                            exact absurd ((Option.some.inj H).trans hrt) (by decide)
                        · rw [if_neg c41] at H
                          have c41b0 : (t122 == 1024) = false := beq_eq_false_iff_ne.mpr c41
                          have c41b1 : (t122 != 1024) = true := bne_iff_ne.mpr c41
                          exact absurd ((Option.some.inj H).trans hrt) (by decide)
                      · rw [if_neg c39] at H
                        have c39b0 : (t120.toList == ([49, 46, 53, 112, 120] : List UInt8)) = false := beq_eq_false_iff_ne.mpr c39
                        have c39b1 : (t120.toList != ([49, 46, 53, 112, 120] : List UInt8)) = true := bne_iff_ne.mpr c39
                        exact absurd ((Option.some.inj H).trans hrt) (by decide)
                    · replace c37 := Bool.eq_false_iff.mpr c37
                      subst c37
                      have H1 : (some false) = some r := by rw [if_neg (show ¬ (false = true) by decide)] at H; exact H
                      clear H
                      have H := H1
                      clear H1
                      exact absurd ((Option.some.inj H).trans hrt) (by decide)
                  · rw [if_neg c35] at H
                    have c35b0 : (t118.toList == ([109, 97, 114, 103, 105, 110, 45, 108, 101, 102, 116] : List UInt8)) = false := beq_eq_false_iff_ne.mpr c35
                    have c35b1 : (t118.toList != ([109, 97, 114, 103, 105, 110, 45, 108, 101, 102, 116] : List UInt8)) = true := bne_iff_ne.mpr c35
                    exact absurd ((Option.some.inj H).trans hrt) (by decide)
                · rw [if_neg c33] at H
                  have c33b0 : (t117 == 24) = false := beq_eq_false_iff_ne.mpr c33
                  have c33b1 : (t117 != 24) = true := bne_iff_ne.mpr c33
                  exact absurd ((Option.some.inj H).trans hrt) (by decide)
              · replace c31 := Bool.eq_false_iff.mpr c31
                subst c31
                have H1 : (some false) = some r := by rw [if_neg (show ¬ (false = true) by decide)] at H; exact H
                clear H
                have H := H1
                clear H1
                exact absurd ((Option.some.inj H).trans hrt) (by decide)
            · rw [if_neg c30] at H
              have c30b0 : (t114 == 32768) = false := beq_eq_false_iff_ne.mpr c30
              have c30b1 : (t114 != 32768) = true := bne_iff_ne.mpr c30
              exact absurd ((Option.some.inj H).trans hrt) (by decide)
        · replace c8 := Bool.eq_false_iff.mpr c8
          subst c8
          have H1 : (some false) = some r := by rw [if_neg (show ¬ (false = true) by decide)] at H; exact H
          clear H
          have H := H1
          clear H1
          exact absurd ((Option.some.inj H).trans hrt) (by decide)
      · rw [if_neg c7] at H
        have c7b0 : (t105 == 3 && (t106 == 3200)) = false := by simpa using c7
        (try (have c7b1 : decide (t105 = 3 && (t106 == 3200)) = false := by simpa using c7))
        (try (have c7b2 : (t105 == 3 && (t106 == 3200)) = false := by simpa using c7))
        (try (have c7b3 : ¬ (t105 = 3 && (t106 == 3200)) := by simpa using c7))
        clear c7
        exact absurd ((Option.some.inj H).trans hrt) (by decide)
    · replace c6 := Bool.eq_false_iff.mpr c6
      subst c6
      have H1 : (some false) = some r := by rw [if_neg (show ¬ (false = true) by decide)] at H; exact H
      clear H
      have H := H1
      clear H1
      exact absurd ((Option.some.inj H).trans hrt) (by decide)
  · rw [if_neg c5] at H
    have c5b0 : (t101 == 2 && (t102 == 96)) = false := by simpa using c5
    (try (have c5b1 : decide (t101 = 2 && (t102 == 96)) = false := by simpa using c5))
    (try (have c5b2 : (t101 == 2 && (t102 == 96)) = false := by simpa using c5))
    (try (have c5b3 : ¬ (t101 = 2 && (t102 == 96)) := by simpa using c5))
    clear c5
    exact absurd ((Option.some.inj H).trans hrt) (by decide)

/-! ### scrimref07_Lower: function 23 -/
def scrimref07_Lower.l0 : Nat → ByteArray → List Int → Int → Option (ByteArray)
  | 0, _, _, _ => none
  | k + 1, x0, x3, x4 => if x4 < (x0.size : Int) then (if 0 ≤ x4 then (if (bt x0 x4) ≥ 65 then (if (bt x0 x4) ≤ 90 then (if x3.length < 140737488355328 then (scrimref07_Lower.l0 k x0 (x3 ++ [((bt x0 x4) + 32) % 256]) (wrap64 (x4 + 1))) else (none)) else (if x3.length < 140737488355328 then (scrimref07_Lower.l0 k x0 (x3 ++ [bt x0 x4]) (wrap64 (x4 + 1))) else (none))) else (if x3.length < 140737488355328 then (scrimref07_Lower.l0 k x0 (x3 ++ [bt x0 x4]) (wrap64 (x4 + 1))) else (none))) else (none)) else (some (strOfNums x3))
def scrimref07_Lower.f (k : Nat) (a0 : ByteArray) : Option (ByteArray) := scrimref07_Lower.l0 k a0 (([] : List Int)) 0
theorem scrimref07_Lower.mono_l : ∀ k, (∀ y0 y1 y2, LeO (scrimref07_Lower.l0 k y0 y1 y2) (scrimref07_Lower.l0 (k + 1) y0 y1 y2))
  | 0 => fun _ _ _ r h => by simp [scrimref07_Lower.l0] at h
  | k + 1 => by
    have ih0 := scrimref07_Lower.mono_l k
    · intro y0 y1 y2
      unfold scrimref07_Lower.l0
      repeat' first
      | (with_reducible exact ih0 _ _ _)
      | (with_reducible exact LeO.refl _)
      | (with_reducible exact LeO.none _)
      | (with_reducible refine LeO.ite ?_ ?_)
      | (with_reducible refine LeO.bind ?_ (fun _ => ?_))
      | exact ih0 _ _ _
      | exact LeO.none _
      | refine LeO.ite ?_ ?_
      | refine LeO.bind ?_ (fun _ => ?_)
theorem scrimref07_Lower.mono : ∀ a0 k, LeO (scrimref07_Lower.f k a0) (scrimref07_Lower.f (k + 1) a0) := by
  intro a0 k
  have ih0 := scrimref07_Lower.mono_l k
  unfold scrimref07_Lower.f
  repeat' first
      | (with_reducible exact ih0 _ _ _)
      | (with_reducible exact LeO.refl _)
      | (with_reducible exact LeO.none _)
      | (with_reducible refine LeO.ite ?_ ?_)
      | (with_reducible refine LeO.bind ?_ (fun _ => ?_))
      | exact ih0 _ _ _
      | exact LeO.none _
      | refine LeO.ite ?_ ?_
      | refine LeO.bind ?_ (fun _ => ?_)
set_option maxHeartbeats 8000000 in
set_option maxRecDepth 100000 in
theorem scrimref07_Lower.calls (k : Nat) (a0 : ByteArray) (r : ByteArray) (w : World) (h : scrimref07_Lower.f k a0 = some r) :
    Calls Tryz.prog 23 #[.string a0] w fun e w' => e = .returned (.string r) ∧ Below w.heap.size w w' := by
  have HB := Aside0.mk (Below.refl w.heap.size w)
  have H : (scrimref07_Lower.l0 k a0 (([] : List Int)) 0) = some r := h
  clear h
  obtain ⟨y125, hy125⟩ : ∃ y_ : List Int, y_ = (([] : List Int)) := ⟨_, rfl⟩
  replace H : (scrimref07_Lower.l0 k a0 y125 0) = some r := by first | (rw [hy125]; with_reducible exact H) | (have H2_ := (Option.bind_some _ _).symm.trans H; rw [hy125]; with_reducible exact H2_) | (have H2_ := (Option.bind_some _ _).symm.trans H; with_reducible exact H2_) | with_reducible exact H | (rw [hy125]; exact H) | exact H
  have Ny125 := Aside0.mk hy125
  clear hy125
  have H' := Aside0.mk H
  clear H
  go_enter Tryz.func23, Tryz.ntmps23
  go_wp2_with (first | ((with_reducible refine gate_dst (N := 6) rfl ?_); refine Kd.R_lit (Kd.int .u8) _ 5 ?hg (N := 6) ?hd (xs := ([] : List Int)) (inner := []) (ok := fun _ => True) (okp := fun _ => True) ?hr ?hp (fun _ hk => hk) trivial (Below.refl _ _) (Nat.le_refl _) (by simp) ?_; (case hd => rfl); (case hg => rfl); (case hr => first | (go_simp; done) | (go_simp; rfl)); (case hp => exact (Reps.none _ _)); intro v126 w2 ho3 hb hg_ hnew_; clear hg_ hnew_; (first | rw [← Ny125.out] at ho3 | (simp only [Int.reduceToNat] at ho3; rw [← Ny125.out] at ho3)); have n0_ := Aside0.mk (Kd.R_lower ho3 (below_size (by repeat (first | (with_reducible first | exact HB.out | apply below_alloc | apply pw_below_drewN | apply below_drew1) | exact HB.out)))); have n1_ := Aside0.mk (below_step (by repeat (first | (with_reducible first | exact HB.out | apply below_alloc | apply pw_below_drewN | apply below_drew1) | exact HB.out)) hb); clear HB; have HO127 := n0_; have HB := n1_; clear n0_ n1_; clear hb ho3))
  go_loopg [3, 4] k (fun kq v3 v4 w' => ∃ (x3_1 : List Int) (x4_1 : Int), v4 = .int .i64 x4_1 ∧ Aside0 (scrimref07_Lower.l0 kq a0 x3_1 x4_1 = some r) ∧ Aside0 (kq ≤ k) ∧ Aside0 (Kd.R (Kd.int .u8) 5 w' w.heap.size (fun _ => True) v3 x3_1) ∧ Aside0 (Below w.heap.size w w'))
  case atStart => exact ⟨(y125), (0), (by first | rfl | (simp; done) | (simp [*]; done)), H', ⟨Nat.le_refl _⟩, ⟨by (with_reducible repeat (first | apply Kd.R_alloc | apply Kd.R_drewN | apply Kd.R_drew)); exact HO127.out⟩, ⟨by repeat (first | (with_reducible first | exact HB.out | apply below_alloc | apply pw_below_drewN | apply below_drew1) | exact HB.out)⟩⟩
  case round =>
    clear H'
    try clear c2
    try clear p2
    obtain ⟨x3_1, x4_1, rfl, HA, HK1, HO_3, HB⟩ := hrel
    cases gk with
    | zero => exact absurd HA.out (by simp [scrimref07_Lower.l0])
    | succ k1 =>
      have H := HA.out
      clear HA
      simp only [scrimref07_Lower.l0] at H
      by_cases c4 : x4_1 < (a0.size : Int)
      · rw [if_pos c4] at H
        have c4b0 : decide (x4_1 < (a0.size : Int)) = true := decide_eq_true c4
        clear c4
        by_cases c5 : 0 ≤ x4_1
        · rw [if_pos c5] at H
          have c5b0 : decide (0 ≤ x4_1) = true := decide_eq_true c5
          clear c5
          by_cases c7 : (bt a0 x4_1) ≥ 65
          · rw [if_pos c7] at H
            have c7b0 : decide (65 ≤ (bt a0 x4_1)) = true := decide_eq_true c7
            clear c7
            by_cases c8 : (bt a0 x4_1) ≤ 90
            · rw [if_pos c8] at H
              have c8b0 : decide ((bt a0 x4_1) ≤ 90) = true := decide_eq_true c8
              clear c8
              by_cases c9 : x3_1.length < 140737488355328
              · rw [if_pos c9] at H
                have LMc9 := Aside0.mk c9
                clear c9
                obtain ⟨y128, hy128⟩ : ∃ y_ : List Int, y_ = (x3_1 ++ [((bt a0 x4_1) + 32) % 256]) := ⟨_, rfl⟩
                replace H : (scrimref07_Lower.l0 k1 a0 y128 (wrap64 (x4_1 + 1))) = some r := by first | (rw [hy128]; with_reducible exact H) | (have H2_ := (Option.bind_some _ _).symm.trans H; rw [hy128]; with_reducible exact H2_) | (have H2_ := (Option.bind_some _ _).symm.trans H; with_reducible exact H2_) | with_reducible exact H | (rw [hy128]; exact H) | exact H
                have Ny128 := Aside0.mk hy128
                clear hy128
                have H' := Aside0.mk H
                clear H
                have p6 : 0 ≤ (x4_1 : Int) := of_decide_eq_true (by first | (with_reducible assumption) | assumption)
                have q6 : x4_1 < (a0.size : Int) := of_decide_eq_true (by first | (with_reducible assumption) | assumption)
                have hx6 := bt_at a0 x4_1
                replace p6 := eq_true p6
                replace q6 := eq_true q6
                go_wp2_with (first | ((with_reducible refine gate_builtin (b := .append) (xs := #[.tmp 24, .tmp 26]) rfl ?_); at_builtin; refine Kd.R_append (Kd.int .u8) (w0 := w) w.heap.size rfl (.tmp 24) (.tmp 26) 56 5 (.int .u8 0) 1 rfl Tryz.underlying56 info5 rfl (by decide) (by omega) u3 x3_1 (((bt a0 x4_1) + 32) % 256) [.int .u8 (((bt a0 x4_1) + 32) % 256)] (fun _ => True) (fun _ => False) rfl rfl ?aP (fun _ hk => hk.elim) ?aF ?aO ?aB ?aS ?aL ?_; (case aP => exact rfl); (case aB => exact (by repeat (first | (with_reducible first | exact HB.out | apply below_alloc | apply pw_below_drewN | apply below_drew1) | exact HB.out))); (case aF => exact (fun _ _ => trivial)); (case aO => exact (by (with_reducible repeat (first | apply Kd.R_alloc | apply Kd.R_drewN | apply Kd.R_drew)); exact HO_3.out)); (case aS => exact (below_size (by repeat (first | (with_reducible first | exact HB.out | apply below_alloc | apply pw_below_drewN | apply below_drew1) | exact HB.out)))); (case aL => have := LMc9.out; omega); intro v129 w10 ho hb hg hat; rw [← Ny128.out] at ho; have n0_ := Aside0.mk (hb); have n1_ := Aside0.mk (ho); clear HB; clear HO_3; have HB := n0_; have HO130 := n1_; clear n0_ n1_; clear ho hb hg hat))
                go_roundg k1
                case measure => have := HK1.out; omega
                case rel => exact ⟨(y128), (wrap64 (x4_1 + 1)), (by first | rfl | (simp; done) | (simp [*]; done)), H', ⟨by have := HK1.out; omega⟩, ⟨by (with_reducible repeat (first | apply Kd.R_alloc | apply Kd.R_drewN | apply Kd.R_drew)); exact HO130.out⟩, ⟨by repeat (first | (with_reducible first | exact HB.out | apply below_alloc | apply pw_below_drewN | apply below_drew1) | exact HB.out)⟩⟩
              · rw [if_neg c9] at H
                exact absurd H (by simp)
            · rw [if_neg c8] at H
              have c8b0 : decide ((bt a0 x4_1) ≤ 90) = false := decide_eq_false c8
              clear c8
              by_cases c11 : x3_1.length < 140737488355328
              · rw [if_pos c11] at H
                have LMc11 := Aside0.mk c11
                clear c11
                obtain ⟨y131, hy131⟩ : ∃ y_ : List Int, y_ = (x3_1 ++ [bt a0 x4_1]) := ⟨_, rfl⟩
                replace H : (scrimref07_Lower.l0 k1 a0 y131 (wrap64 (x4_1 + 1))) = some r := by first | (rw [hy131]; with_reducible exact H) | (have H2_ := (Option.bind_some _ _).symm.trans H; rw [hy131]; with_reducible exact H2_) | (have H2_ := (Option.bind_some _ _).symm.trans H; with_reducible exact H2_) | with_reducible exact H | (rw [hy131]; exact H) | exact H
                have Ny131 := Aside0.mk hy131
                clear hy131
                have H' := Aside0.mk H
                clear H
                have p6 : 0 ≤ (x4_1 : Int) := of_decide_eq_true (by first | (with_reducible assumption) | assumption)
                have q6 : x4_1 < (a0.size : Int) := of_decide_eq_true (by first | (with_reducible assumption) | assumption)
                have hx6 := bt_at a0 x4_1
                replace p6 := eq_true p6
                replace q6 := eq_true q6
                go_wp2_with (first | ((with_reducible refine gate_builtin (b := .append) (xs := #[.tmp 24, .tmp 26]) rfl ?_); at_builtin; refine Kd.R_append (Kd.int .u8) (w0 := w) w.heap.size rfl (.tmp 24) (.tmp 26) 56 5 (.int .u8 0) 1 rfl Tryz.underlying56 info5 rfl (by decide) (by omega) u3 x3_1 (bt a0 x4_1) [.int .u8 (bt a0 x4_1)] (fun _ => True) (fun _ => False) rfl rfl ?aP (fun _ hk => hk.elim) ?aF ?aO ?aB ?aS ?aL ?_; (case aP => exact rfl); (case aB => exact (by repeat (first | (with_reducible first | exact HB.out | apply below_alloc | apply pw_below_drewN | apply below_drew1) | exact HB.out))); (case aF => exact (fun _ _ => trivial)); (case aO => exact (by (with_reducible repeat (first | apply Kd.R_alloc | apply Kd.R_drewN | apply Kd.R_drew)); exact HO_3.out)); (case aS => exact (below_size (by repeat (first | (with_reducible first | exact HB.out | apply below_alloc | apply pw_below_drewN | apply below_drew1) | exact HB.out)))); (case aL => have := LMc11.out; omega); intro v132 w12 ho hb hg hat; rw [← Ny131.out] at ho; have n0_ := Aside0.mk (hb); have n1_ := Aside0.mk (ho); clear HB; clear HO_3; have HB := n0_; have HO133 := n1_; clear n0_ n1_; clear ho hb hg hat))
                go_roundg k1
                case measure => have := HK1.out; omega
                case rel => exact ⟨(y131), (wrap64 (x4_1 + 1)), (by first | rfl | (simp; done) | (simp [*]; done)), H', ⟨by have := HK1.out; omega⟩, ⟨by (with_reducible repeat (first | apply Kd.R_alloc | apply Kd.R_drewN | apply Kd.R_drew)); exact HO133.out⟩, ⟨by repeat (first | (with_reducible first | exact HB.out | apply below_alloc | apply pw_below_drewN | apply below_drew1) | exact HB.out)⟩⟩
              · rw [if_neg c11] at H
                exact absurd H (by simp)
          · rw [if_neg c7] at H
            have c7b0 : decide (65 ≤ (bt a0 x4_1)) = false := decide_eq_false c7
            clear c7
            by_cases c13 : x3_1.length < 140737488355328
            · rw [if_pos c13] at H
              have LMc13 := Aside0.mk c13
              clear c13
              obtain ⟨y134, hy134⟩ : ∃ y_ : List Int, y_ = (x3_1 ++ [bt a0 x4_1]) := ⟨_, rfl⟩
              replace H : (scrimref07_Lower.l0 k1 a0 y134 (wrap64 (x4_1 + 1))) = some r := by first | (rw [hy134]; with_reducible exact H) | (have H2_ := (Option.bind_some _ _).symm.trans H; rw [hy134]; with_reducible exact H2_) | (have H2_ := (Option.bind_some _ _).symm.trans H; with_reducible exact H2_) | with_reducible exact H | (rw [hy134]; exact H) | exact H
              have Ny134 := Aside0.mk hy134
              clear hy134
              have H' := Aside0.mk H
              clear H
              have p6 : 0 ≤ (x4_1 : Int) := of_decide_eq_true (by first | (with_reducible assumption) | assumption)
              have q6 : x4_1 < (a0.size : Int) := of_decide_eq_true (by first | (with_reducible assumption) | assumption)
              have hx6 := bt_at a0 x4_1
              replace p6 := eq_true p6
              replace q6 := eq_true q6
              go_wp2_with (first | ((with_reducible refine gate_builtin (b := .append) (xs := #[.tmp 24, .tmp 26]) rfl ?_); at_builtin; refine Kd.R_append (Kd.int .u8) (w0 := w) w.heap.size rfl (.tmp 24) (.tmp 26) 56 5 (.int .u8 0) 1 rfl Tryz.underlying56 info5 rfl (by decide) (by omega) u3 x3_1 (bt a0 x4_1) [.int .u8 (bt a0 x4_1)] (fun _ => True) (fun _ => False) rfl rfl ?aP (fun _ hk => hk.elim) ?aF ?aO ?aB ?aS ?aL ?_; (case aP => exact rfl); (case aB => exact (by repeat (first | (with_reducible first | exact HB.out | apply below_alloc | apply pw_below_drewN | apply below_drew1) | exact HB.out))); (case aF => exact (fun _ _ => trivial)); (case aO => exact (by (with_reducible repeat (first | apply Kd.R_alloc | apply Kd.R_drewN | apply Kd.R_drew)); exact HO_3.out)); (case aS => exact (below_size (by repeat (first | (with_reducible first | exact HB.out | apply below_alloc | apply pw_below_drewN | apply below_drew1) | exact HB.out)))); (case aL => have := LMc13.out; omega); intro v135 w14 ho hb hg hat; rw [← Ny134.out] at ho; have n0_ := Aside0.mk (hb); have n1_ := Aside0.mk (ho); clear HB; clear HO_3; have HB := n0_; have HO136 := n1_; clear n0_ n1_; clear ho hb hg hat))
              go_roundg k1
              case measure => have := HK1.out; omega
              case rel => exact ⟨(y134), (wrap64 (x4_1 + 1)), (by first | rfl | (simp; done) | (simp [*]; done)), H', ⟨by have := HK1.out; omega⟩, ⟨by (with_reducible repeat (first | apply Kd.R_alloc | apply Kd.R_drewN | apply Kd.R_drew)); exact HO136.out⟩, ⟨by repeat (first | (with_reducible first | exact HB.out | apply below_alloc | apply pw_below_drewN | apply below_drew1) | exact HB.out)⟩⟩
            · rw [if_neg c13] at H
              exact absurd H (by simp)
        · rw [if_neg c5] at H
          exact absurd H (by simp)
      · rw [if_neg c4] at H
        have c4b0 : decide (x4_1 < (a0.size : Int)) = false := decide_eq_false c4
        clear c4
        obtain rfl := Option.some.inj H
        have hcv15 := own_string (P := Tryz.prog) Tryz.underlying56 Tryz.underlying5 Tryz.underlying9 (Kd.own_of_R HO_3.out)
        go_wp2
        go_ret
        exact ⟨by first | rfl | (simp [errW_none, errW_some] <;> rfl) | (simp [*, errW_none, errW_some] <;> rfl), by repeat (first | (with_reducible first | exact HB.out | apply below_alloc | apply pw_below_drewN | apply below_drew1) | exact HB.out)⟩

/-! ### scrimref07_Blank: function 40 -/
def scrimref07_Blank.f (a0 : Int) : Option (Bool) := if a0 = 32 then (some true) else (if a0 = 9 then (some true) else (if a0 = 10 then (some true) else (some (a0 == 13))))
set_option maxHeartbeats 8000000 in
set_option maxRecDepth 100000 in
theorem scrimref07_Blank.calls (a0 : Int) (r : Bool) (w : World) (h : scrimref07_Blank.f a0 = some r) :
    Calls Tryz.prog 40 #[.int .u8 a0] w fun e w' => e = .returned (.bool r) ∧ Drawn0 w w' := by
  have H : (if a0 = 32 then (some true) else (if a0 = 9 then (some true) else (if a0 = 10 then (some true) else (some (a0 == 13))))) = some r := h
  clear h
  by_cases c2 : a0 = 32
  · rw [if_pos c2] at H
    have c2b0 : (a0 == 32) = true := beq_iff_eq.mpr c2
    have c2b1 : (a0 != 32) = false := bne_eq_false_iff_eq.mpr c2
    clear c2
    obtain rfl := Option.some.inj H
    go_enter Tryz.func40, Tryz.ntmps40
    go_wp2
    go_ret
    exact ⟨by first | rfl | (simp; done) | (simp [*]; done), by repeat (first | exact Drawn0.refl _ | apply Drawn0.step)⟩
  · rw [if_neg c2] at H
    have c2b0 : (a0 == 32) = false := beq_eq_false_iff_ne.mpr c2
    have c2b1 : (a0 != 32) = true := bne_iff_ne.mpr c2
    by_cases c3 : a0 = 9
    · rw [if_pos c3] at H
      have c3b0 : (a0 == 9) = true := beq_iff_eq.mpr c3
      have c3b1 : (a0 != 9) = false := bne_eq_false_iff_eq.mpr c3
      clear c3
      obtain rfl := Option.some.inj H
      go_enter Tryz.func40, Tryz.ntmps40
      go_wp2
      go_ret
      exact ⟨by first | rfl | (simp; done) | (simp [*]; done), by repeat (first | exact Drawn0.refl _ | apply Drawn0.step)⟩
    · rw [if_neg c3] at H
      have c3b0 : (a0 == 9) = false := beq_eq_false_iff_ne.mpr c3
      have c3b1 : (a0 != 9) = true := bne_iff_ne.mpr c3
      by_cases c4 : a0 = 10
      · rw [if_pos c4] at H
        have c4b0 : (a0 == 10) = true := beq_iff_eq.mpr c4
        have c4b1 : (a0 != 10) = false := bne_eq_false_iff_eq.mpr c4
        clear c4
        obtain rfl := Option.some.inj H
        go_enter Tryz.func40, Tryz.ntmps40
        go_wp2
        go_ret
        exact ⟨by first | rfl | (simp; done) | (simp [*]; done), by repeat (first | exact Drawn0.refl _ | apply Drawn0.step)⟩
      · rw [if_neg c4] at H
        have c4b0 : (a0 == 10) = false := beq_eq_false_iff_ne.mpr c4
        have c4b1 : (a0 != 10) = true := bne_iff_ne.mpr c4
        obtain rfl := Option.some.inj H
        go_enter Tryz.func40, Tryz.ntmps40
        go_wp2
        go_ret
        exact ⟨by first | rfl | (simp; done) | (simp [*]; done), by repeat (first | exact Drawn0.refl _ | apply Drawn0.step)⟩

/-! ### scrimref07_Trim: function 24 -/
mutual
def scrimref07_Trim.j0 : Nat → ByteArray → Bool → Option (ByteArray)
  | 0, _, _ => none
  | k + 1, x0, x9 => if x9 = true then (if 1 ≤ (x0.size : Int) then ((scrimref07_Trim.f k (x0.extract 1 x0.size)).bind fun t138 => (some t138)) else (none)) else (if x0.toList = ([] : List UInt8) then (some x0) else (if 0 ≤ (wrap64 ((x0.size : Int) - 1)) then (if (wrap64 ((x0.size : Int) - 1)) < (x0.size : Int) then ((scrimref07_Blank.f (bt x0 (wrap64 ((x0.size : Int) - 1)))).bind fun t139 => (if t139 = true then (if (wrap64 ((x0.size : Int) - 1)) ≤ (x0.size : Int) then ((scrimref07_Trim.f k (x0.extract 0 ((wrap64 ((x0.size : Int) - 1)) : Int).toNat)).bind fun t140 => (some t140)) else (none)) else (some x0))) else (none)) else (none)))
def scrimref07_Trim.f : Nat → ByteArray → Option (ByteArray)
  | 0, _ => none
  | k + 1, a0 => if a0.toList = ([] : List UInt8) then (scrimref07_Trim.j0 k a0 false) else (if 0 < (a0.size : Int) then ((scrimref07_Blank.f (bt a0 0)).bind fun t137 => (scrimref07_Trim.j0 k a0 t137)) else (none))
end
theorem scrimref07_Trim.mono_l : ∀ k, (∀ y0, LeO (scrimref07_Trim.f k y0) (scrimref07_Trim.f (k + 1) y0)) ∧ (∀ y0 y1, LeO (scrimref07_Trim.j0 k y0 y1) (scrimref07_Trim.j0 (k + 1) y0 y1))
  | 0 => ⟨fun _ r h => by simp [scrimref07_Trim.f] at h, fun _ _ r h => by simp [scrimref07_Trim.j0] at h⟩
  | k + 1 => by
    obtain ⟨ih0, ih1⟩ := scrimref07_Trim.mono_l k
    refine ⟨?_, ?_⟩
    · intro y0
      unfold scrimref07_Trim.f
      repeat' first
      | (with_reducible exact ih0 _)
      | (with_reducible exact ih1 _ _)
      | (with_reducible exact LeO.refl _)
      | (with_reducible exact LeO.none _)
      | (with_reducible refine LeO.ite ?_ ?_)
      | (with_reducible refine LeO.bind ?_ (fun _ => ?_))
      | exact ih0 _
      | exact ih1 _ _
      | exact LeO.none _
      | refine LeO.ite ?_ ?_
      | refine LeO.bind ?_ (fun _ => ?_)
    · intro y0 y1
      unfold scrimref07_Trim.j0
      repeat' first
      | (with_reducible exact ih0 _)
      | (with_reducible exact ih1 _ _)
      | (with_reducible exact LeO.refl _)
      | (with_reducible exact LeO.none _)
      | (with_reducible refine LeO.ite ?_ ?_)
      | (with_reducible refine LeO.bind ?_ (fun _ => ?_))
      | exact ih0 _
      | exact ih1 _ _
      | exact LeO.none _
      | refine LeO.ite ?_ ?_
      | refine LeO.bind ?_ (fun _ => ?_)
theorem scrimref07_Trim.mono : ∀ a0 k, LeO (scrimref07_Trim.f k a0) (scrimref07_Trim.f (k + 1) a0) := by
  intro a0 k
  obtain ⟨ih0, ih1⟩ := scrimref07_Trim.mono_l k
  exact ih0 a0
set_option maxHeartbeats 8000000 in
set_option maxRecDepth 100000 in
theorem scrimref07_Trim.calls (k : Nat) : ∀ (a0 : ByteArray) (r : ByteArray) (w : World) (h : scrimref07_Trim.f k a0 = some r),
    Calls Tryz.prog 24 #[.string a0] w fun e w' => e = .returned (.string r) ∧ Drawn0 w w' := by
  induction k using Nat.strongRecOn with
  | _ k ih =>
  intro a0 r w h
  cases k with
  | zero => exact absurd h (by simp [scrimref07_Trim.f])
  | succ k =>
  simp only [scrimref07_Trim.f] at h
  have H : (if a0.toList = ([] : List UInt8) then (scrimref07_Trim.j0 k a0 false) else (if 0 < (a0.size : Int) then ((scrimref07_Blank.f (bt a0 0)).bind fun t137 => (scrimref07_Trim.j0 k a0 t137)) else (none))) = some r := h
  clear h
  have HC2 := Aside0.mk H
  clear H
  go_enter Tryz.func24, Tryz.ntmps24
  go_upto_region 1 with (fail)
  go_cut [9] (fun v9 wc => ∃ (kq : Nat) (x9_1 : Bool), v9 = .bool x9_1 ∧ Aside0 (scrimref07_Trim.j0 kq a0 x9_1 = some r) ∧ Aside0 (kq ≤ k) ∧ Drawn0 w wc)
  case first =>
    have H := HC2.out
    clear HC2
    by_cases c3 : a0.toList = ([] : List UInt8)
    · rw [if_pos c3] at H
      have c3b0 : (a0.toList == ([] : List UInt8)) = true := beq_iff_eq.mpr c3
      have c3b1 : (a0.toList != ([] : List UInt8)) = false := bne_eq_false_iff_eq.mpr c3
      clear c3
      (first | rw [c3b0] | (simp only [i64_w, i32_w]; rw [c3b0]) | skip)
      have H' := Aside0.mk H
      clear H
      go_wp2
      go_meet
      case rel => exact ⟨_, (false), (by first | rfl | (simp; done) | (simp [*]; done)), H', ⟨by first | omega | exact Nat.le_refl _⟩, by repeat (first | exact Drawn0.refl _ | apply Drawn0.step)⟩
    · rw [if_neg c3] at H
      have c3b0 : (a0.toList == ([] : List UInt8)) = false := beq_eq_false_iff_ne.mpr c3
      have c3b1 : (a0.toList != ([] : List UInt8)) = true := bne_iff_ne.mpr c3
      (first | rw [c3b0] | (simp only [i64_w, i32_w]; rw [c3b0]) | skip)
      by_cases c4 : 0 < (a0.size : Int)
      · rw [if_pos c4] at H
        have c4b0 : decide (0 < (a0.size : Int)) = true := decide_eq_true c4
        have c4b1 : decide (0 < a0.size) = true := decide_eq_true (by omega)
        clear c4
        replace H := Option.bind_eq_some_iff.mp H
        obtain ⟨t137, A60, H⟩ := H
        replace H : (scrimref07_Trim.j0 k a0 t137) = some r := H
        have A6 := Aside0.mk A60
        clear A60
        have H' := Aside0.mk H
        clear H
        have p5 : 0 ≤ (0 : Int) := (by omega)
        have q5 : 0 < a0.size := (by have : (0 : Int) < (a0.size : Int) := of_decide_eq_true (by first | (with_reducible assumption) | assumption); omega)
        have hx5 : ∀ h : 0 < a0.size, ((a0[0]'h).toNat : Int) = bt a0 0 := bt_at a0 0
        clear p5
        have qi5 : (0 < (a0.size : Int)) = True := eq_true (of_decide_eq_true (by first | (with_reducible assumption) | assumption))
        replace q5 := eq_true q5
        go_wp2_with (first | (go_at_call 40; (with_reducible refine (scrimref07_Blank.calls (bt a0 0) t137 _ A6.out).mono ?_); rintro e w' ⟨rfl, ⟨nd, rfl⟩⟩))
        go_meet
        case rel => exact ⟨_, (t137), (by first | rfl | (simp; done) | (simp [*]; done)), H', ⟨by first | omega | exact Nat.le_refl _⟩, by repeat (first | exact Drawn0.refl _ | apply Drawn0.step)⟩
      · rw [if_neg c4] at H
        exact absurd H (by simp)
  case rest =>
    clear HC2
    try clear c2
    try clear p2
    try clear c3
    try clear c3b0
    try clear c3b1
    try clear c4
    try clear c4b0
    try clear c4b1
    try clear p5
    try clear q5
    try clear hx5
    try clear qi5
    try clear p5
    try clear q5
    obtain ⟨kq, x9_1, rfl, HA, HJ1, ⟨mc1, rfl⟩⟩ := hcut
    cases kq with
    | zero => exact absurd HA.out (by simp [scrimref07_Trim.j0])
    | succ kj1 =>
      have H := HA.out
      clear HA
      simp only [scrimref07_Trim.j0] at H
      by_cases c7 : x9_1 = true
      · subst c7
        have H1 : (if 1 ≤ (a0.size : Int) then ((scrimref07_Trim.f kj1 (a0.extract 1 a0.size)).bind fun t138 => (some t138)) else (none)) = some r := by rw [if_pos rfl] at H; exact H
        clear H
        have H := H1
        clear H1
        by_cases c8 : 1 ≤ (a0.size : Int)
        · rw [if_pos c8] at H
          have c8b0 := eq_true c8
          have c8b1 : decide (1 ≤ (a0.size : Int)) = true := decide_eq_true c8
          clear c8
          replace H := Option.bind_eq_some_iff.mp H
          obtain ⟨t138, A90, H⟩ := H
          replace H : (some t138) = some r := H
          have A9 := Aside0.mk A90
          clear A90
          obtain rfl := Option.some.inj H
          go_wp2_with (first | ((with_reducible refine gate_callee (f := 24) rfl ?_); refine goesL_ (some 12) rfl rfl Tryz.func24 (by kernel_rfl) rfl #[.string (a0.extract 1 a0.size)] rfl (by (try simp only [List.map_toArray, List.map_cons, List.map_nil]); first | done | rfl | (simp only [List.length_drop, List.length_take]; rfl)) ?_; (with_reducible refine (ih kj1 (by have := HJ1.out; omega) (a0.extract 1 a0.size) t138 _ A9.out).mono ?_); rintro e w' ⟨rfl, ⟨nd, rfl⟩⟩; refine ⟨_, rfl, ?_⟩))
          go_ret
          exact ⟨by first | rfl | (simp; done) | (simp [*]; done), by repeat (first | exact Drawn0.refl _ | apply Drawn0.step)⟩
        · rw [if_neg c8] at H
          exact absurd H (by simp)
      · replace c7 := Bool.eq_false_iff.mpr c7
        subst c7
        have H1 : (if a0.toList = ([] : List UInt8) then (some a0) else (if 0 ≤ (wrap64 ((a0.size : Int) - 1)) then (if (wrap64 ((a0.size : Int) - 1)) < (a0.size : Int) then ((scrimref07_Blank.f (bt a0 (wrap64 ((a0.size : Int) - 1)))).bind fun t139 => (if t139 = true then (if (wrap64 ((a0.size : Int) - 1)) ≤ (a0.size : Int) then ((scrimref07_Trim.f kj1 (a0.extract 0 ((wrap64 ((a0.size : Int) - 1)) : Int).toNat)).bind fun t140 => (some t140)) else (none)) else (some a0))) else (none)) else (none))) = some r := by rw [if_neg (show ¬ (false = true) by decide)] at H; exact H
        clear H
        have H := H1
        clear H1
        by_cases c10 : a0.toList = ([] : List UInt8)
        · rw [if_pos c10] at H
          have c10b0 : (a0.toList == ([] : List UInt8)) = true := beq_iff_eq.mpr c10
          have c10b1 : (a0.toList != ([] : List UInt8)) = false := bne_eq_false_iff_eq.mpr c10
          clear c10
          obtain rfl := Option.some.inj H
          go_wp2
          go_ret
          exact ⟨by first | rfl | (simp; done) | (simp [*]; done), by repeat (first | exact Drawn0.refl _ | apply Drawn0.step)⟩
        · rw [if_neg c10] at H
          have c10b0 : (a0.toList == ([] : List UInt8)) = false := beq_eq_false_iff_ne.mpr c10
          have c10b1 : (a0.toList != ([] : List UInt8)) = true := bne_iff_ne.mpr c10
          obtain ⟨ji11, hji11⟩ : ∃ j_ : Int, (wrap64 ((a0.size : Int) - 1)) = j_ := ⟨_, rfl⟩
          replace H : (if 0 ≤ (ji11) then (if (ji11) < (a0.size : Int) then ((scrimref07_Blank.f (bt a0 (ji11))).bind fun t139 => (if t139 = true then (if (ji11) ≤ (a0.size : Int) then ((scrimref07_Trim.f kj1 (a0.extract 0 ((ji11) : Int).toNat)).bind fun t140 => (some t140)) else (none)) else (some a0))) else (none)) else (none)) = some r := by first | (rw [hji11] at H; exact H) | (simp only [hji11] at H ⊢; exact H)
          have hji11w : (IntKind.i64.wrap ((a0.size : Int) - 1)) = ji11 := (i64_w _).trans hji11
          by_cases c12 : 0 ≤ (ji11)
          · rw [if_pos c12] at H
            have c12b0 : decide (0 ≤ (ji11)) = true := decide_eq_true c12
            clear c12
            by_cases c13 : (ji11) < (a0.size : Int)
            · rw [if_pos c13] at H
              have c13b0 : decide ((ji11) < (a0.size : Int)) = true := decide_eq_true c13
              clear c13
              replace H := Option.bind_eq_some_iff.mp H
              obtain ⟨t139, A150, H⟩ := H
              replace H : (if t139 = true then (if (ji11) ≤ (a0.size : Int) then ((scrimref07_Trim.f kj1 (a0.extract 0 ((ji11) : Int).toNat)).bind fun t140 => (some t140)) else (none)) else (some a0)) = some r := H
              have A15 := Aside0.mk A150
              clear A150
              by_cases c16 : t139 = true
              · subst c16
                have H1 : (if (ji11) ≤ (a0.size : Int) then ((scrimref07_Trim.f kj1 (a0.extract 0 ((ji11) : Int).toNat)).bind fun t140 => (some t140)) else (none)) = some r := by rw [if_pos rfl] at H; exact H
                clear H
                have H := H1
                clear H1
                have c17b0 := eq_true (of_decide_eq_true (by first | (with_reducible assumption) | assumption) : 0 ≤ (ji11))
                by_cases c18 : (ji11) ≤ (a0.size : Int)
                · rw [if_pos c18] at H
                  have c18b0 := eq_true c18
                  have c18b1 : decide ((ji11) ≤ (a0.size : Int)) = true := decide_eq_true c18
                  clear c18
                  replace H := Option.bind_eq_some_iff.mp H
                  obtain ⟨t140, A190, H⟩ := H
                  replace H : (some t140) = some r := H
                  have A19 := Aside0.mk A190
                  clear A190
                  obtain rfl := Option.some.inj H
                  have p14 : 0 ≤ ((ji11) : Int) := of_decide_eq_true (by first | (with_reducible assumption) | assumption)
                  have q14 : (ji11) < (a0.size : Int) := of_decide_eq_true (by first | (with_reducible assumption) | assumption)
                  have hx14 := bt_at a0 (ji11)
                  replace p14 := eq_true p14
                  replace q14 := eq_true q14
                  go_wp2_with (first | (go_at_call 40; (with_reducible refine (scrimref07_Blank.calls (bt a0 (ji11)) true _ A15.out).mono ?_); rintro e w' ⟨rfl, ⟨nd, rfl⟩⟩) | ((with_reducible refine gate_callee (f := 24) rfl ?_); refine goesL_ (some 28) rfl rfl Tryz.func24 (by kernel_rfl) rfl #[.string (a0.extract 0 ((ji11) : Int).toNat)] rfl (by (try simp only [List.map_toArray, List.map_cons, List.map_nil]); first | done | (simp only [hji11]; rfl) | rfl | (simp only [List.length_drop, List.length_take]; rfl)) ?_; (with_reducible refine (ih kj1 (by have := HJ1.out; omega) (a0.extract 0 ((ji11) : Int).toNat) t140 _ A19.out).mono ?_); rintro e w' ⟨rfl, ⟨nd, rfl⟩⟩; refine ⟨_, rfl, ?_⟩))
                  go_ret
                  exact ⟨by first | rfl | (simp; done) | (simp only [← hji11] <;> (first | rfl | simp)) | (simp [*]; done), by repeat (first | exact Drawn0.refl _ | apply Drawn0.step)⟩
                · rw [if_neg c18] at H
                  exact absurd H (by simp)
              · replace c16 := Bool.eq_false_iff.mpr c16
                subst c16
                have H1 : (some a0) = some r := by rw [if_neg (show ¬ (false = true) by decide)] at H; exact H
                clear H
                have H := H1
                clear H1
                obtain rfl := Option.some.inj H
                have p14 : 0 ≤ ((ji11) : Int) := of_decide_eq_true (by first | (with_reducible assumption) | assumption)
                have q14 : (ji11) < (a0.size : Int) := of_decide_eq_true (by first | (with_reducible assumption) | assumption)
                have hx14 := bt_at a0 (ji11)
                replace p14 := eq_true p14
                replace q14 := eq_true q14
                go_wp2_with (first | (go_at_call 40; (with_reducible refine (scrimref07_Blank.calls (bt a0 (ji11)) false _ A15.out).mono ?_); rintro e w' ⟨rfl, ⟨nd, rfl⟩⟩))
                go_ret
                exact ⟨by first | rfl | (simp; done) | (simp only [← hji11] <;> (first | rfl | simp)) | (simp [*]; done), by repeat (first | exact Drawn0.refl _ | apply Drawn0.step)⟩
            · rw [if_neg c13] at H
              exact absurd H (by simp)
          · rw [if_neg c12] at H
            exact absurd H (by simp)

end Go.Proofs.YtmfhhlgjbjbnhaaGreatDoor.HV
