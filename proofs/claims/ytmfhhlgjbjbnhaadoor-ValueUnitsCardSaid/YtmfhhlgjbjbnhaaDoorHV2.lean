-- Written by a program of this session (wip/tools/hprint.py), which drives the kit's print; not print.sh's own output.
import Derived.Test.YtmfhhlgjbjbnhaaDoorHV0
import Derived.Test.YtmfhhlgjbjbnhaaDoorHV1
namespace Go.Proofs.YtmfhhlgjbjbnhaaDoor.HV
open Go.RowKit Go.Proofs.YtmfhhlgjbjbnhaaDoorW.PrintWords Go.Proofs.YtmfhhlgjbjbnhaaDoorW.PrintLast Go.Proofs.YtmfhhlgjbjbnhaaDoorW.PrintMore
attribute [local go_sem] max2_int min2_int max_two min_two max_three min_three max_four min_four   -- for this text's walks alone
set_option linter.unusedVariables false
set_option linter.unusedSimpArgs false

attribute [local go_sem high] eqA23
/-! ### value_Print: function 14 (by hand) -/
def value_Print.f (a0 : Int) (a1_0 : Int) (a1_1 : Int) : Option ByteArray := some (Go.Proofs.Val.printV a0 a1_0 a1_1)
theorem value_Print.calls (a0 : Int) (a1_0 : Int) (a1_1 : Int) (r : ByteArray) (w : World) (h : value_Print.f a0 a1_0 a1_1 = some r) (hmx : Go.Proofs.Val.Tbs w) :
    Calls Tryd.prog 14 #[.int .i64 a0, .agg #[.int .i64 a1_0, .int .i64 a1_1]] w fun e w' => e = .returned (.string r) ∧ Below w.heap.size w w' := by
  unfold value_Print.f at h
  cases h
  exact Go.Proofs.Val.printC a0 a1_0 a1_1 w hmx


/-! ### value_Read: function 15 (by hand) -/
def value_Read.f (a0 : Int) (a1 : ByteArray) : Option (Int × Int × Bool) := if a1.size < 4294967281 then some ((Go.Proofs.Val.readV a0 a1).1.1, (Go.Proofs.Val.readV a0 a1).1.2, (Go.Proofs.Val.readV a0 a1).2) else none
theorem value_Read.calls (a0 : Int) (a1 : ByteArray) (r1 : Int) (r2 : Int) (r3 : Bool) (w : World) (h : value_Read.f a0 a1 = some (r1, r2, r3)) :
    Calls Tryd.prog 15 #[.int .i64 a0, .string a1] w fun e w' => e = .returned (.tuple #[.agg #[.int .i64 r1, .int .i64 r2], .bool r3]) ∧ Below w.heap.size w w' := by
  unfold value_Read.f at h
  by_cases h1 : a1.size < 4294967281
  · rw [if_pos h1] at h
    cases h
    exact Go.Proofs.Val.readC a0 a1 w h1
  · rw [if_neg h1] at h; cases h


/-! ### value_May: function 16 (by hand) -/
def value_May.f (a0 : Int) (a1_0 : Int) (a1_1 : Int) : Option Bool := some (Go.Proofs.Val.mayV (Go.Proofs.Val.cl a0) a1_0 a1_1)
theorem value_May.calls (a0 : Int) (a1_0 : Int) (a1_1 : Int) (r : Bool) (w : World) (h : value_May.f a0 a1_0 a1_1 = some r) :
    Calls Tryd.prog 16 #[.int .i64 a0, .agg #[.int .i64 a1_0, .int .i64 a1_1]] w fun e w' => e = .returned (.bool r) ∧ Below w.heap.size w w' := by
  unfold value_May.f at h
  cases h
  exact Go.Proofs.Val.mayP a0 a1_0 a1_1 w


/-! ### value_Prop: function 17 (by hand) -/
def value_Prop.f (a0 : ByteArray) : Option Int := some (Go.Proofs.Val.propV a0)
theorem value_Prop.calls (a0 : ByteArray) (r : Int) (w : World) (h : value_Prop.f a0 = some r) :
    Calls Tryd.prog 17 #[.string a0] w fun e w' => e = .returned (.int .i64 r) ∧ Below w.heap.size w w' := by
  unfold value_Prop.f at h
  cases h
  exact Go.Proofs.Val.propC a0 w


/-! ### value_Name: function 18 (by hand) -/
def value_Name.f (a0 : Int) : Option ByteArray := some (Go.Proofs.Val.nameP a0)
theorem value_Name.calls (a0 : Int) (r : ByteArray) (w : World) (h : value_Name.f a0 = some r) :
    Calls Tryd.prog 18 #[.int .i64 a0] w fun e w' => e = .returned (.string r) ∧ Below w.heap.size w w' := by
  unfold value_Name.f at h
  cases h
  exact Go.Proofs.Val.nameC a0 w


/-! ### value_First: function 19 (by hand) -/
def value_First.f (a0 : Int) : Option (Int × Int) := some (Go.Proofs.Val.firstP a0)
theorem value_First.calls (a0 : Int) (r1 : Int) (r2 : Int) (w : World) (h : value_First.f a0 = some (r1, r2)) :
    Calls Tryd.prog 19 #[.int .i64 a0] w fun e w' => e = .returned (.agg #[.int .i64 r1, .int .i64 r2]) ∧ Below w.heap.size w w' := by
  unfold value_First.f at h
  have h2 : Go.Proofs.Val.firstP a0 = (r1, r2) := Option.some.inj h
  have q := Go.Proofs.Val.firstPC a0 w
  rw [h2] at q
  exact q


/-! ### value_Passed: function 20 -/
def value_Passed.f (a0 : Int) : Option (Bool) := if a0 = 16 then (some true) else (if a0 = 18 then (some true) else (some (a0 == 19)))
set_option maxHeartbeats 8000000 in
set_option maxRecDepth 100000 in
theorem value_Passed.calls (a0 : Int) (r : Bool) (w : World) (h : value_Passed.f a0 = some r) :
    Calls Tryd.prog 20 #[.int .i64 a0] w fun e w' => e = .returned (.bool r) ∧ Drawn0 w w' := by
  have H : (if a0 = 16 then (some true) else (if a0 = 18 then (some true) else (some (a0 == 19)))) = some r := h
  clear h
  by_cases c2 : a0 = 16
  · rw [if_pos c2] at H
    have c2b0 : (a0 == 16) = true := beq_iff_eq.mpr c2
    have c2b1 : (a0 != 16) = false := bne_eq_false_iff_eq.mpr c2
    clear c2
    obtain rfl := Option.some.inj H
    go_enter Tryd.func20, Tryd.ntmps20
    go_wp2
    go_ret
    exact ⟨by first | rfl | (simp; done) | (simp [*]; done), by repeat (first | exact Drawn0.refl _ | apply Drawn0.step)⟩
  · rw [if_neg c2] at H
    have c2b0 : (a0 == 16) = false := beq_eq_false_iff_ne.mpr c2
    have c2b1 : (a0 != 16) = true := bne_iff_ne.mpr c2
    by_cases c3 : a0 = 18
    · rw [if_pos c3] at H
      have c3b0 : (a0 == 18) = true := beq_iff_eq.mpr c3
      have c3b1 : (a0 != 18) = false := bne_eq_false_iff_eq.mpr c3
      clear c3
      obtain rfl := Option.some.inj H
      go_enter Tryd.func20, Tryd.ntmps20
      go_wp2
      go_ret
      exact ⟨by first | rfl | (simp; done) | (simp [*]; done), by repeat (first | exact Drawn0.refl _ | apply Drawn0.step)⟩
    · rw [if_neg c3] at H
      have c3b0 : (a0 == 18) = false := beq_eq_false_iff_ne.mpr c3
      have c3b1 : (a0 != 18) = true := bne_iff_ne.mpr c3
      obtain rfl := Option.some.inj H
      go_enter Tryd.func20, Tryd.ntmps20
      go_wp2
      go_ret
      exact ⟨by first | rfl | (simp; done) | (simp [*]; done), by repeat (first | exact Drawn0.refl _ | apply Drawn0.step)⟩

/-! ### scrimlaw08_awake: function 13 -/
def scrimlaw08_awake.f  : Option (Bool) := (value_Read.f 2 (⟨#[32, 49, 46, 53, 80, 88, 32]⟩ : ByteArray)).bind fun bt101 => ((value_Read.f 2 (⟨#[53, 48, 37]⟩ : ByteArray)).bind fun bt105 => ((value_Read.f 2 (⟨#[45, 49, 112, 120]⟩ : ByteArray)).bind fun bt109 => ((value_Read.f 16 (⟨#[103, 114, 101, 101, 110]⟩ : ByteArray)).bind fun bt113 => (if (bt101.1 == 2 && (bt101.2.1 == 96)) = true then (if bt101.2.2 = true then (if (bt105.1 == 3 && (bt105.2.1 == 3200)) = true then (if bt105.2.2 = true then (if bt109.2.2 = true then (some false) else (if bt113.2.1 = 32768 then (if bt113.2.2 = true then ((value_Prop.f (⟨#[111, 114, 100, 101, 114]⟩ : ByteArray)).bind fun t117 => (if t117 = 24 then ((value_Name.f 7).bind fun t118 => (if t118.toList = ([109, 97, 114, 103, 105, 110, 45, 108, 101, 102, 116] : List UInt8) then ((value_May.f 26 2 (-1)).bind fun t119 => (if t119 = true then ((value_Print.f 2 bt101.1 bt101.2.1).bind fun t120 => (if t120.toList = ([49, 46, 53, 112, 120] : List UInt8) then ((value_First.f 18).bind fun bt121 => (if bt121.2 = 1024 then ((value_Passed.f 16).bind fun t123 => (if t123 = true then ((value_Passed.f 2).bind fun t124 => (if t124 = true then (some false) else (some true))) else (some false))) else (some false))) else (some false))) else (some false))) else (some false))) else (some false))) else (some false)) else (some false))) else (some false)) else (some false)) else (some false)) else (some false)))))
set_option maxHeartbeats 8000000 in
set_option maxRecDepth 100000 in
theorem scrimlaw08_awake.calls  (r : Bool) (hrt : r = true) (w : World) (h : scrimlaw08_awake.f  = some r) (hmx : Go.Proofs.Val.Tbs w) :
    Calls Tryd.prog 13 #[] w fun e w' => e = .returned (.bool r) ∧ Below w.heap.size w w' := by
  have hfd0 : ∀ (a b : Int) (w : World), (Go.Instr.field 23 (.agg #[.int .i64 a, .int .i64 b]) 0).run Tryd.prog w = .ok (.int .i64 a) w := fun a b w => by kernel_rfl
  have hfd1 : ∀ (a b : Int) (w : World), (Go.Instr.field 23 (.agg #[.int .i64 a, .int .i64 b]) 1).run Tryd.prog w = .ok (.int .i64 b) w := fun a b w => by kernel_rfl
  have HMX := Aside0.mk hmx
  clear hmx
  have hu23 := Tryd.underlying23
  have HB := Aside0.mk (Below.refl w.heap.size w)
  have H : ((value_Read.f 2 (⟨#[32, 49, 46, 53, 80, 88, 32]⟩ : ByteArray)).bind fun bt101 => ((value_Read.f 2 (⟨#[53, 48, 37]⟩ : ByteArray)).bind fun bt105 => ((value_Read.f 2 (⟨#[45, 49, 112, 120]⟩ : ByteArray)).bind fun bt109 => ((value_Read.f 16 (⟨#[103, 114, 101, 101, 110]⟩ : ByteArray)).bind fun bt113 => (if (bt101.1 == 2 && (bt101.2.1 == 96)) = true then (if bt101.2.2 = true then (if (bt105.1 == 3 && (bt105.2.1 == 3200)) = true then (if bt105.2.2 = true then (if bt109.2.2 = true then (some false) else (if bt113.2.1 = 32768 then (if bt113.2.2 = true then ((value_Prop.f (⟨#[111, 114, 100, 101, 114]⟩ : ByteArray)).bind fun t117 => (if t117 = 24 then ((value_Name.f 7).bind fun t118 => (if t118.toList = ([109, 97, 114, 103, 105, 110, 45, 108, 101, 102, 116] : List UInt8) then ((value_May.f 26 2 (-1)).bind fun t119 => (if t119 = true then ((value_Print.f 2 bt101.1 bt101.2.1).bind fun t120 => (if t120.toList = ([49, 46, 53, 112, 120] : List UInt8) then ((value_First.f 18).bind fun bt121 => (if bt121.2 = 1024 then ((value_Passed.f 16).bind fun t123 => (if t123 = true then ((value_Passed.f 2).bind fun t124 => (if t124 = true then (some false) else (some true))) else (some false))) else (some false))) else (some false))) else (some false))) else (some false))) else (some false))) else (some false)) else (some false))) else (some false)) else (some false)) else (some false)) else (some false)))))) = some r := h
  clear h
  replace H := Option.bind_eq_some_iff.mp H
  obtain ⟨⟨t101, t102, t103⟩, A10, H⟩ := H
  replace H : ((value_Read.f 2 (⟨#[53, 48, 37]⟩ : ByteArray)).bind fun bt105 => ((value_Read.f 2 (⟨#[45, 49, 112, 120]⟩ : ByteArray)).bind fun bt109 => ((value_Read.f 16 (⟨#[103, 114, 101, 101, 110]⟩ : ByteArray)).bind fun bt113 => (if (t101 == 2 && (t102 == 96)) = true then (if t103 = true then (if (bt105.1 == 3 && (bt105.2.1 == 3200)) = true then (if bt105.2.2 = true then (if bt109.2.2 = true then (some false) else (if bt113.2.1 = 32768 then (if bt113.2.2 = true then ((value_Prop.f (⟨#[111, 114, 100, 101, 114]⟩ : ByteArray)).bind fun t117 => (if t117 = 24 then ((value_Name.f 7).bind fun t118 => (if t118.toList = ([109, 97, 114, 103, 105, 110, 45, 108, 101, 102, 116] : List UInt8) then ((value_May.f 26 2 (-1)).bind fun t119 => (if t119 = true then ((value_Print.f 2 t101 t102).bind fun t120 => (if t120.toList = ([49, 46, 53, 112, 120] : List UInt8) then ((value_First.f 18).bind fun bt121 => (if bt121.2 = 1024 then ((value_Passed.f 16).bind fun t123 => (if t123 = true then ((value_Passed.f 2).bind fun t124 => (if t124 = true then (some false) else (some true))) else (some false))) else (some false))) else (some false))) else (some false))) else (some false))) else (some false))) else (some false)) else (some false))) else (some false)) else (some false)) else (some false)) else (some false))))) = some r := H
  have A1 := Aside0.mk A10
  clear A10
  replace H := Option.bind_eq_some_iff.mp H
  obtain ⟨⟨t105, t106, t107⟩, A20, H⟩ := H
  replace H : ((value_Read.f 2 (⟨#[45, 49, 112, 120]⟩ : ByteArray)).bind fun bt109 => ((value_Read.f 16 (⟨#[103, 114, 101, 101, 110]⟩ : ByteArray)).bind fun bt113 => (if (t101 == 2 && (t102 == 96)) = true then (if t103 = true then (if (t105 == 3 && (t106 == 3200)) = true then (if t107 = true then (if bt109.2.2 = true then (some false) else (if bt113.2.1 = 32768 then (if bt113.2.2 = true then ((value_Prop.f (⟨#[111, 114, 100, 101, 114]⟩ : ByteArray)).bind fun t117 => (if t117 = 24 then ((value_Name.f 7).bind fun t118 => (if t118.toList = ([109, 97, 114, 103, 105, 110, 45, 108, 101, 102, 116] : List UInt8) then ((value_May.f 26 2 (-1)).bind fun t119 => (if t119 = true then ((value_Print.f 2 t101 t102).bind fun t120 => (if t120.toList = ([49, 46, 53, 112, 120] : List UInt8) then ((value_First.f 18).bind fun bt121 => (if bt121.2 = 1024 then ((value_Passed.f 16).bind fun t123 => (if t123 = true then ((value_Passed.f 2).bind fun t124 => (if t124 = true then (some false) else (some true))) else (some false))) else (some false))) else (some false))) else (some false))) else (some false))) else (some false))) else (some false)) else (some false))) else (some false)) else (some false)) else (some false)) else (some false)))) = some r := H
  have A2 := Aside0.mk A20
  clear A20
  replace H := Option.bind_eq_some_iff.mp H
  obtain ⟨⟨t109, t110, t111⟩, A30, H⟩ := H
  replace H : ((value_Read.f 16 (⟨#[103, 114, 101, 101, 110]⟩ : ByteArray)).bind fun bt113 => (if (t101 == 2 && (t102 == 96)) = true then (if t103 = true then (if (t105 == 3 && (t106 == 3200)) = true then (if t107 = true then (if t111 = true then (some false) else (if bt113.2.1 = 32768 then (if bt113.2.2 = true then ((value_Prop.f (⟨#[111, 114, 100, 101, 114]⟩ : ByteArray)).bind fun t117 => (if t117 = 24 then ((value_Name.f 7).bind fun t118 => (if t118.toList = ([109, 97, 114, 103, 105, 110, 45, 108, 101, 102, 116] : List UInt8) then ((value_May.f 26 2 (-1)).bind fun t119 => (if t119 = true then ((value_Print.f 2 t101 t102).bind fun t120 => (if t120.toList = ([49, 46, 53, 112, 120] : List UInt8) then ((value_First.f 18).bind fun bt121 => (if bt121.2 = 1024 then ((value_Passed.f 16).bind fun t123 => (if t123 = true then ((value_Passed.f 2).bind fun t124 => (if t124 = true then (some false) else (some true))) else (some false))) else (some false))) else (some false))) else (some false))) else (some false))) else (some false))) else (some false)) else (some false))) else (some false)) else (some false)) else (some false)) else (some false))) = some r := H
  have A3 := Aside0.mk A30
  clear A30
  replace H := Option.bind_eq_some_iff.mp H
  obtain ⟨⟨t113, t114, t115⟩, A40, H⟩ := H
  replace H : (if (t101 == 2 && (t102 == 96)) = true then (if t103 = true then (if (t105 == 3 && (t106 == 3200)) = true then (if t107 = true then (if t111 = true then (some false) else (if t114 = 32768 then (if t115 = true then ((value_Prop.f (⟨#[111, 114, 100, 101, 114]⟩ : ByteArray)).bind fun t117 => (if t117 = 24 then ((value_Name.f 7).bind fun t118 => (if t118.toList = ([109, 97, 114, 103, 105, 110, 45, 108, 101, 102, 116] : List UInt8) then ((value_May.f 26 2 (-1)).bind fun t119 => (if t119 = true then ((value_Print.f 2 t101 t102).bind fun t120 => (if t120.toList = ([49, 46, 53, 112, 120] : List UInt8) then ((value_First.f 18).bind fun bt121 => (if bt121.2 = 1024 then ((value_Passed.f 16).bind fun t123 => (if t123 = true then ((value_Passed.f 2).bind fun t124 => (if t124 = true then (some false) else (some true))) else (some false))) else (some false))) else (some false))) else (some false))) else (some false))) else (some false))) else (some false)) else (some false))) else (some false)) else (some false)) else (some false)) else (some false)) = some r := H
  have A4 := Aside0.mk A40
  clear A40
  by_cases c5 : (t101 == 2 && (t102 == 96)) = true
  · rw [if_pos c5] at H
    have c5b0 : (t101 == 2 && (t102 == 96)) = true := c5
    (try (have c5b1 : decide (t101 = 2 && (t102 == 96)) = true := by simpa using c5))
    (try (have c5b2 : (t101 == 2 && (t102 == 96)) = true := by simpa using c5))
    clear c5
    by_cases c6 : t103 = true
    · subst c6
      have H1 : (if (t105 == 3 && (t106 == 3200)) = true then (if t107 = true then (if t111 = true then (some false) else (if t114 = 32768 then (if t115 = true then ((value_Prop.f (⟨#[111, 114, 100, 101, 114]⟩ : ByteArray)).bind fun t117 => (if t117 = 24 then ((value_Name.f 7).bind fun t118 => (if t118.toList = ([109, 97, 114, 103, 105, 110, 45, 108, 101, 102, 116] : List UInt8) then ((value_May.f 26 2 (-1)).bind fun t119 => (if t119 = true then ((value_Print.f 2 t101 t102).bind fun t120 => (if t120.toList = ([49, 46, 53, 112, 120] : List UInt8) then ((value_First.f 18).bind fun bt121 => (if bt121.2 = 1024 then ((value_Passed.f 16).bind fun t123 => (if t123 = true then ((value_Passed.f 2).bind fun t124 => (if t124 = true then (some false) else (some true))) else (some false))) else (some false))) else (some false))) else (some false))) else (some false))) else (some false))) else (some false)) else (some false))) else (some false)) else (some false)) = some r := by rw [if_pos rfl] at H; exact H
      clear H
      have H := H1
      clear H1
      by_cases c7 : (t105 == 3 && (t106 == 3200)) = true
      · rw [if_pos c7] at H
        have c7b0 : (t105 == 3 && (t106 == 3200)) = true := c7
        (try (have c7b1 : decide (t105 = 3 && (t106 == 3200)) = true := by simpa using c7))
        (try (have c7b2 : (t105 == 3 && (t106 == 3200)) = true := by simpa using c7))
        clear c7
        by_cases c8 : t107 = true
        · subst c8
          have H1 : (if t111 = true then (some false) else (if t114 = 32768 then (if t115 = true then ((value_Prop.f (⟨#[111, 114, 100, 101, 114]⟩ : ByteArray)).bind fun t117 => (if t117 = 24 then ((value_Name.f 7).bind fun t118 => (if t118.toList = ([109, 97, 114, 103, 105, 110, 45, 108, 101, 102, 116] : List UInt8) then ((value_May.f 26 2 (-1)).bind fun t119 => (if t119 = true then ((value_Print.f 2 t101 t102).bind fun t120 => (if t120.toList = ([49, 46, 53, 112, 120] : List UInt8) then ((value_First.f 18).bind fun bt121 => (if bt121.2 = 1024 then ((value_Passed.f 16).bind fun t123 => (if t123 = true then ((value_Passed.f 2).bind fun t124 => (if t124 = true then (some false) else (some true))) else (some false))) else (some false))) else (some false))) else (some false))) else (some false))) else (some false))) else (some false)) else (some false))) = some r := by rw [if_pos rfl] at H; exact H
          clear H
          have H := H1
          clear H1
          by_cases c9 : t111 = true
          · subst c9
            have H1 : (some false) = some r := by rw [if_pos rfl] at H; exact H
            clear H
            have H := H1
            clear H1
            exact absurd ((Option.some.inj H).trans hrt) (by decide)
          · replace c9 := Bool.eq_false_iff.mpr c9
            subst c9
            have H1 : (if t114 = 32768 then (if t115 = true then ((value_Prop.f (⟨#[111, 114, 100, 101, 114]⟩ : ByteArray)).bind fun t117 => (if t117 = 24 then ((value_Name.f 7).bind fun t118 => (if t118.toList = ([109, 97, 114, 103, 105, 110, 45, 108, 101, 102, 116] : List UInt8) then ((value_May.f 26 2 (-1)).bind fun t119 => (if t119 = true then ((value_Print.f 2 t101 t102).bind fun t120 => (if t120.toList = ([49, 46, 53, 112, 120] : List UInt8) then ((value_First.f 18).bind fun bt121 => (if bt121.2 = 1024 then ((value_Passed.f 16).bind fun t123 => (if t123 = true then ((value_Passed.f 2).bind fun t124 => (if t124 = true then (some false) else (some true))) else (some false))) else (some false))) else (some false))) else (some false))) else (some false))) else (some false))) else (some false)) else (some false)) = some r := by rw [if_neg (show ¬ (false = true) by decide)] at H; exact H
            clear H
            have H := H1
            clear H1
            by_cases c30 : t114 = 32768
            · rw [if_pos c30] at H
              have c30b0 : (t114 == 32768) = true := beq_iff_eq.mpr c30
              have c30b1 : (t114 != 32768) = false := bne_eq_false_iff_eq.mpr c30
              clear c30
              by_cases c31 : t115 = true
              · subst c31
                have H1 : ((value_Prop.f (⟨#[111, 114, 100, 101, 114]⟩ : ByteArray)).bind fun t117 => (if t117 = 24 then ((value_Name.f 7).bind fun t118 => (if t118.toList = ([109, 97, 114, 103, 105, 110, 45, 108, 101, 102, 116] : List UInt8) then ((value_May.f 26 2 (-1)).bind fun t119 => (if t119 = true then ((value_Print.f 2 t101 t102).bind fun t120 => (if t120.toList = ([49, 46, 53, 112, 120] : List UInt8) then ((value_First.f 18).bind fun bt121 => (if bt121.2 = 1024 then ((value_Passed.f 16).bind fun t123 => (if t123 = true then ((value_Passed.f 2).bind fun t124 => (if t124 = true then (some false) else (some true))) else (some false))) else (some false))) else (some false))) else (some false))) else (some false))) else (some false))) = some r := by rw [if_pos rfl] at H; exact H
                clear H
                have H := H1
                clear H1
                replace H := Option.bind_eq_some_iff.mp H
                obtain ⟨t117, A320, H⟩ := H
                replace H : (if t117 = 24 then ((value_Name.f 7).bind fun t118 => (if t118.toList = ([109, 97, 114, 103, 105, 110, 45, 108, 101, 102, 116] : List UInt8) then ((value_May.f 26 2 (-1)).bind fun t119 => (if t119 = true then ((value_Print.f 2 t101 t102).bind fun t120 => (if t120.toList = ([49, 46, 53, 112, 120] : List UInt8) then ((value_First.f 18).bind fun bt121 => (if bt121.2 = 1024 then ((value_Passed.f 16).bind fun t123 => (if t123 = true then ((value_Passed.f 2).bind fun t124 => (if t124 = true then (some false) else (some true))) else (some false))) else (some false))) else (some false))) else (some false))) else (some false))) else (some false)) = some r := H
                have A32 := Aside0.mk A320
                clear A320
                by_cases c33 : t117 = 24
                · rw [if_pos c33] at H
                  have c33b0 : (t117 == 24) = true := beq_iff_eq.mpr c33
                  have c33b1 : (t117 != 24) = false := bne_eq_false_iff_eq.mpr c33
                  clear c33
                  replace H := Option.bind_eq_some_iff.mp H
                  obtain ⟨t118, A340, H⟩ := H
                  replace H : (if t118.toList = ([109, 97, 114, 103, 105, 110, 45, 108, 101, 102, 116] : List UInt8) then ((value_May.f 26 2 (-1)).bind fun t119 => (if t119 = true then ((value_Print.f 2 t101 t102).bind fun t120 => (if t120.toList = ([49, 46, 53, 112, 120] : List UInt8) then ((value_First.f 18).bind fun bt121 => (if bt121.2 = 1024 then ((value_Passed.f 16).bind fun t123 => (if t123 = true then ((value_Passed.f 2).bind fun t124 => (if t124 = true then (some false) else (some true))) else (some false))) else (some false))) else (some false))) else (some false))) else (some false)) = some r := H
                  have A34 := Aside0.mk A340
                  clear A340
                  by_cases c35 : t118.toList = ([109, 97, 114, 103, 105, 110, 45, 108, 101, 102, 116] : List UInt8)
                  · rw [if_pos c35] at H
                    have c35b0 : (t118.toList == ([109, 97, 114, 103, 105, 110, 45, 108, 101, 102, 116] : List UInt8)) = true := beq_iff_eq.mpr c35
                    have c35b1 : (t118.toList != ([109, 97, 114, 103, 105, 110, 45, 108, 101, 102, 116] : List UInt8)) = false := bne_eq_false_iff_eq.mpr c35
                    clear c35
                    replace H := Option.bind_eq_some_iff.mp H
                    obtain ⟨t119, A360, H⟩ := H
                    replace H : (if t119 = true then ((value_Print.f 2 t101 t102).bind fun t120 => (if t120.toList = ([49, 46, 53, 112, 120] : List UInt8) then ((value_First.f 18).bind fun bt121 => (if bt121.2 = 1024 then ((value_Passed.f 16).bind fun t123 => (if t123 = true then ((value_Passed.f 2).bind fun t124 => (if t124 = true then (some false) else (some true))) else (some false))) else (some false))) else (some false))) else (some false)) = some r := H
                    have A36 := Aside0.mk A360
                    clear A360
                    by_cases c37 : t119 = true
                    · subst c37
                      have H1 : ((value_Print.f 2 t101 t102).bind fun t120 => (if t120.toList = ([49, 46, 53, 112, 120] : List UInt8) then ((value_First.f 18).bind fun bt121 => (if bt121.2 = 1024 then ((value_Passed.f 16).bind fun t123 => (if t123 = true then ((value_Passed.f 2).bind fun t124 => (if t124 = true then (some false) else (some true))) else (some false))) else (some false))) else (some false))) = some r := by rw [if_pos rfl] at H; exact H
                      clear H
                      have H := H1
                      clear H1
                      replace H := Option.bind_eq_some_iff.mp H
                      obtain ⟨t120, A380, H⟩ := H
                      replace H : (if t120.toList = ([49, 46, 53, 112, 120] : List UInt8) then ((value_First.f 18).bind fun bt121 => (if bt121.2 = 1024 then ((value_Passed.f 16).bind fun t123 => (if t123 = true then ((value_Passed.f 2).bind fun t124 => (if t124 = true then (some false) else (some true))) else (some false))) else (some false))) else (some false)) = some r := H
                      have A38 := Aside0.mk A380
                      clear A380
                      by_cases c39 : t120.toList = ([49, 46, 53, 112, 120] : List UInt8)
                      · rw [if_pos c39] at H
                        have c39b0 : (t120.toList == ([49, 46, 53, 112, 120] : List UInt8)) = true := beq_iff_eq.mpr c39
                        have c39b1 : (t120.toList != ([49, 46, 53, 112, 120] : List UInt8)) = false := bne_eq_false_iff_eq.mpr c39
                        clear c39
                        replace H := Option.bind_eq_some_iff.mp H
                        obtain ⟨⟨t121, t122⟩, A400, H⟩ := H
                        replace H : (if t122 = 1024 then ((value_Passed.f 16).bind fun t123 => (if t123 = true then ((value_Passed.f 2).bind fun t124 => (if t124 = true then (some false) else (some true))) else (some false))) else (some false)) = some r := H
                        have A40 := Aside0.mk A400
                        clear A400
                        by_cases c41 : t122 = 1024
                        · rw [if_pos c41] at H
                          have c41b0 : (t122 == 1024) = true := beq_iff_eq.mpr c41
                          have c41b1 : (t122 != 1024) = false := bne_eq_false_iff_eq.mpr c41
                          clear c41
                          replace H := Option.bind_eq_some_iff.mp H
                          obtain ⟨t123, A420, H⟩ := H
                          replace H : (if t123 = true then ((value_Passed.f 2).bind fun t124 => (if t124 = true then (some false) else (some true))) else (some false)) = some r := H
                          have A42 := Aside0.mk A420
                          clear A420
                          by_cases c43 : t123 = true
                          · subst c43
                            have H1 : ((value_Passed.f 2).bind fun t124 => (if t124 = true then (some false) else (some true))) = some r := by rw [if_pos rfl] at H; exact H
                            clear H
                            have H := H1
                            clear H1
                            replace H := Option.bind_eq_some_iff.mp H
                            obtain ⟨t124, A440, H⟩ := H
                            replace H : (if t124 = true then (some false) else (some true)) = some r := H
                            have A44 := Aside0.mk A440
                            clear A440
                            by_cases c45 : t124 = true
                            · subst c45
                              have H1 : (some false) = some r := by rw [if_pos rfl] at H; exact H
                              clear H
                              have H := H1
                              clear H1
                              exact absurd ((Option.some.inj H).trans hrt) (by decide)
                            · replace c45 := Bool.eq_false_iff.mpr c45
                              subst c45
                              have H1 : (some true) = some r := by rw [if_neg (show ¬ (false = true) by decide)] at H; exact H
                              clear H
                              have H := H1
                              clear H1
                              obtain rfl := Option.some.inj H; clear hrt; try clear H
                              go_enter Tryd.func13, Tryd.ntmps13
                              go_wp2_with (first | ((with_reducible refine gate_callee (f := 15) rfl ?_); refine goesL_ (some 10) rfl rfl Tryd.func15 (by kernel_rfl) rfl #[.int .i64 2, .string (⟨#[32, 49, 46, 53, 80, 88, 32]⟩ : ByteArray)] rfl (by (try simp only [List.map_toArray, List.map_cons, List.map_nil]); first | done | rfl | (simp only [List.length_drop, List.length_take]; rfl)) ?_; (with_reducible refine (value_Read.calls 2 (⟨#[32, 49, 46, 53, 80, 88, 32]⟩ : ByteArray) t101 t102 true _ A1.out).mono ?_); rintro e w72 ⟨rfl, hb⟩; refine ⟨_, rfl, ?_⟩; have n0_ := Aside0.mk (below_step (by repeat (first | (with_reducible first | exact HB.out | apply below_alloc | apply pw_below_drewN | apply below_drew1) | exact HB.out)) hb); clear HB; have HB := n0_; clear n0_; (try clear hb); (try clear hb2); (try clear hk); (try clear hi)) | ((with_reducible refine gate_dst (N := 1) rfl ?_); refine box_event ?hg (N := 1) ?hd (cs := #[.int .i64 0, .int .i64 0]) (t := 23) ?hr ?_; (case hd => rfl); (case hg => rfl); (case hr => first | (go_simp; done) | (go_simp; rfl)); intro gb104 hg w73 hbox hb; have n0_ := Aside0.mk (below_step (by repeat (first | (with_reducible first | exact HB.out | apply below_alloc | apply pw_below_drewN | apply below_drew1) | exact HB.out)) hb); have n1_ := Aside0.mk (hbox); have n2_ := Aside0.mk ((by rw [hg]; exact (below_size (by repeat (first | (with_reducible first | exact HB.out | apply below_alloc | apply pw_below_drewN | apply below_drew1) | exact HB.out))) : w.heap.size ≤ gb104)); have n3_ := Aside0.mk ((by rw [hg]; exact (below_size (by repeat (first | (with_reducible first | exact HB.out | apply below_alloc | apply pw_below_drewN | apply below_drew1) | exact HB.out))) : w.heap.size ≤ gb104)); clear HB; have HB := n0_; have BK104 := n1_; have GW104 := n2_; have GE104 := n3_; clear n0_ n1_ n2_ n3_; clear hb hbox hg; have hcz74_0 : w73.cell? ⟨gb104, 0, none⟩ = some (.int .i64 0) := (blk_cell BK104.out 0).trans rfl; have hcz74_1 : w73.cell? ⟨gb104, 1, none⟩ = some (.int .i64 0) := (blk_cell BK104.out 1).trans rfl; have hfz74_0 := blk_frozen BK104.out 0; have hfz74_1 := blk_frozen BK104.out 1) | ((with_reducible refine gate_callee (f := 15) rfl ?_); refine goesL_ (some 14) rfl rfl Tryd.func15 (by kernel_rfl) rfl #[.int .i64 2, .string (⟨#[53, 48, 37]⟩ : ByteArray)] rfl (by (try simp only [List.map_toArray, List.map_cons, List.map_nil]); first | done | rfl | (simp only [List.length_drop, List.length_take]; rfl)) ?_; (with_reducible refine (value_Read.calls 2 (⟨#[53, 48, 37]⟩ : ByteArray) t105 t106 true _ A2.out).mono ?_); rintro e w75 ⟨rfl, hb⟩; refine ⟨_, rfl, ?_⟩; have n0_ := Aside0.mk (blk_below (g := gb104) (o := .cells #[.int .i64 t101, .int .i64 t102] 23 (0, 0)) (by (with_reducible repeat (first | refine blk_drewN ?_ _ | refine blk_drew ?_ | refine blk_alloc ?_ _)); refine blk_put (cs := #[.int .i64 t101, .int .i64 0]) ?_ 1 _ rfl; (with_reducible repeat (first | refine blk_drewN ?_ _ | refine blk_drew ?_ | refine blk_alloc ?_ _)); refine blk_put (cs := #[.int .i64 0, .int .i64 0]) ?_ 0 _ rfl; (with_reducible repeat (first | refine blk_drewN ?_ _ | refine blk_drew ?_ | refine blk_alloc ?_ _)); exact BK104.out) hb); have n1_ := Aside0.mk (below_step (by repeat (first | (with_reducible first | exact HB.out | apply below_alloc | apply pw_below_drewN | apply below_drew1 | refine below_set ?_ GE104.out) | exact HB.out)) hb); clear BK104; clear HB; have BK104 := n0_; have HB := n1_; clear n0_ n1_; (try clear hb); (try clear hb2); (try clear hk); (try clear hi)) | ((with_reducible refine gate_dst (N := 3) rfl ?_); refine box_event ?hg (N := 3) ?hd (cs := #[.int .i64 0, .int .i64 0]) (t := 23) ?hr ?_; (case hd => rfl); (case hg => rfl); (case hr => first | (go_simp; done) | (go_simp; rfl)); intro gb108 hg w76 hbox hb; have n0_ := Aside0.mk (blk_below (g := gb104) (o := .cells #[.int .i64 t101, .int .i64 t102] 23 (0, 0)) (by (with_reducible repeat (first | refine blk_drewN ?_ _ | refine blk_drew ?_ | refine blk_alloc ?_ _)); exact BK104.out) hb); have n1_ := Aside0.mk (below_step (by repeat (first | (with_reducible first | exact HB.out | apply below_alloc | apply pw_below_drewN | apply below_drew1 | refine below_set ?_ GE104.out) | exact HB.out)) hb); have n2_ := Aside0.mk (hbox); have n3_ := Aside0.mk ((by rw [hg]; exact (below_size (by repeat (first | (with_reducible first | exact HB.out | apply below_alloc | apply pw_below_drewN | apply below_drew1 | refine below_set ?_ GE104.out) | exact HB.out))) : w.heap.size ≤ gb108)); have n4_ := Aside0.mk ((by rw [hg]; exact (below_size (by repeat (first | (with_reducible first | exact HB.out | apply below_alloc | apply pw_below_drewN | apply below_drew1 | refine below_set ?_ GE104.out) | exact HB.out))) : w.heap.size ≤ gb108)); have n5_ := Aside0.mk ((by rw [hg]; exact Nat.ne_of_lt (blk_lt (g := gb104) (o := .cells #[.int .i64 t101, .int .i64 t102] 23 (0, 0)) (by (with_reducible repeat (first | refine blk_drewN ?_ _ | refine blk_drew ?_ | refine blk_alloc ?_ _)); exact BK104.out)) : gb104 ≠ gb108)); have n6_ := Aside0.mk ((by rw [hg]; exact Nat.ne_of_gt (blk_lt (g := gb104) (o := .cells #[.int .i64 t101, .int .i64 t102] 23 (0, 0)) (by (with_reducible repeat (first | refine blk_drewN ?_ _ | refine blk_drew ?_ | refine blk_alloc ?_ _)); exact BK104.out)) : gb108 ≠ gb104)); clear BK104; clear HB; have BK104 := n0_; have HB := n1_; have BK108 := n2_; have GW108 := n3_; have GE108 := n4_; have NB104_108 := n5_; have NB108_104 := n6_; clear n0_ n1_ n2_ n3_ n4_ n5_ n6_; clear hb hbox hg; have hnb77 := NB108_104.out; have hnc77 := NB104_108.out; have hcz78_0 : w76.cell? ⟨gb108, 0, none⟩ = some (.int .i64 0) := (blk_cell BK108.out 0).trans rfl; have hcz78_1 : w76.cell? ⟨gb108, 1, none⟩ = some (.int .i64 0) := (blk_cell BK108.out 1).trans rfl; have hfz78_0 := blk_frozen BK108.out 0; have hfz78_1 := blk_frozen BK108.out 1) | ((with_reducible refine gate_callee (f := 15) rfl ?_); refine goesL_ (some 18) rfl rfl Tryd.func15 (by kernel_rfl) rfl #[.int .i64 2, .string (⟨#[45, 49, 112, 120]⟩ : ByteArray)] rfl (by (try simp only [List.map_toArray, List.map_cons, List.map_nil]); first | done | rfl | (simp only [List.length_drop, List.length_take]; rfl)) ?_; (with_reducible refine (value_Read.calls 2 (⟨#[45, 49, 112, 120]⟩ : ByteArray) t109 t110 false _ A3.out).mono ?_); rintro e w79 ⟨rfl, hb⟩; refine ⟨_, rfl, ?_⟩; have n0_ := Aside0.mk (blk_below (g := gb104) (o := .cells #[.int .i64 t101, .int .i64 t102] 23 (0, 0)) (by (with_reducible repeat (first | refine blk_drewN ?_ _ | refine blk_drew ?_ | refine blk_alloc ?_ _)); refine blk_far ?_ NB104_108.out _; (with_reducible repeat (first | refine blk_drewN ?_ _ | refine blk_drew ?_ | refine blk_alloc ?_ _)); refine blk_far ?_ NB104_108.out _; (with_reducible repeat (first | refine blk_drewN ?_ _ | refine blk_drew ?_ | refine blk_alloc ?_ _)); exact BK104.out) hb); have n1_ := Aside0.mk (blk_below (g := gb108) (o := .cells #[.int .i64 t105, .int .i64 t106] 23 (0, 0)) (by (with_reducible repeat (first | refine blk_drewN ?_ _ | refine blk_drew ?_ | refine blk_alloc ?_ _)); refine blk_put (cs := #[.int .i64 t105, .int .i64 0]) ?_ 1 _ rfl; (with_reducible repeat (first | refine blk_drewN ?_ _ | refine blk_drew ?_ | refine blk_alloc ?_ _)); refine blk_put (cs := #[.int .i64 0, .int .i64 0]) ?_ 0 _ rfl; (with_reducible repeat (first | refine blk_drewN ?_ _ | refine blk_drew ?_ | refine blk_alloc ?_ _)); exact BK108.out) hb); have n2_ := Aside0.mk (below_step (by repeat (first | (with_reducible first | exact HB.out | apply below_alloc | apply pw_below_drewN | apply below_drew1 | refine below_set ?_ GE104.out | refine below_set ?_ GE108.out) | exact HB.out)) hb); clear BK104; clear BK108; clear HB; have BK104 := n0_; have BK108 := n1_; have HB := n2_; clear n0_ n1_ n2_; (try clear hb); (try clear hb2); (try clear hk); (try clear hi)) | ((with_reducible refine gate_dst (N := 5) rfl ?_); refine box_event ?hg (N := 5) ?hd (cs := #[.int .i64 0, .int .i64 0]) (t := 23) ?hr ?_; (case hd => rfl); (case hg => rfl); (case hr => first | (go_simp; done) | (go_simp; rfl)); intro gb112 hg w80 hbox hb; have n0_ := Aside0.mk (blk_below (g := gb104) (o := .cells #[.int .i64 t101, .int .i64 t102] 23 (0, 0)) (by (with_reducible repeat (first | refine blk_drewN ?_ _ | refine blk_drew ?_ | refine blk_alloc ?_ _)); exact BK104.out) hb); have n1_ := Aside0.mk (blk_below (g := gb108) (o := .cells #[.int .i64 t105, .int .i64 t106] 23 (0, 0)) (by (with_reducible repeat (first | refine blk_drewN ?_ _ | refine blk_drew ?_ | refine blk_alloc ?_ _)); exact BK108.out) hb); have n2_ := Aside0.mk (below_step (by repeat (first | (with_reducible first | exact HB.out | apply below_alloc | apply pw_below_drewN | apply below_drew1 | refine below_set ?_ GE104.out | refine below_set ?_ GE108.out) | exact HB.out)) hb); have n3_ := Aside0.mk (hbox); have n4_ := Aside0.mk ((by rw [hg]; exact (below_size (by repeat (first | (with_reducible first | exact HB.out | apply below_alloc | apply pw_below_drewN | apply below_drew1 | refine below_set ?_ GE104.out | refine below_set ?_ GE108.out) | exact HB.out))) : w.heap.size ≤ gb112)); have n5_ := Aside0.mk ((by rw [hg]; exact (below_size (by repeat (first | (with_reducible first | exact HB.out | apply below_alloc | apply pw_below_drewN | apply below_drew1 | refine below_set ?_ GE104.out | refine below_set ?_ GE108.out) | exact HB.out))) : w.heap.size ≤ gb112)); have n6_ := Aside0.mk ((by rw [hg]; exact Nat.ne_of_lt (blk_lt (g := gb104) (o := .cells #[.int .i64 t101, .int .i64 t102] 23 (0, 0)) (by (with_reducible repeat (first | refine blk_drewN ?_ _ | refine blk_drew ?_ | refine blk_alloc ?_ _)); exact BK104.out)) : gb104 ≠ gb112)); have n7_ := Aside0.mk ((by rw [hg]; exact Nat.ne_of_gt (blk_lt (g := gb104) (o := .cells #[.int .i64 t101, .int .i64 t102] 23 (0, 0)) (by (with_reducible repeat (first | refine blk_drewN ?_ _ | refine blk_drew ?_ | refine blk_alloc ?_ _)); exact BK104.out)) : gb112 ≠ gb104)); have n8_ := Aside0.mk ((by rw [hg]; exact Nat.ne_of_lt (blk_lt (g := gb108) (o := .cells #[.int .i64 t105, .int .i64 t106] 23 (0, 0)) (by (with_reducible repeat (first | refine blk_drewN ?_ _ | refine blk_drew ?_ | refine blk_alloc ?_ _)); exact BK108.out)) : gb108 ≠ gb112)); have n9_ := Aside0.mk ((by rw [hg]; exact Nat.ne_of_gt (blk_lt (g := gb108) (o := .cells #[.int .i64 t105, .int .i64 t106] 23 (0, 0)) (by (with_reducible repeat (first | refine blk_drewN ?_ _ | refine blk_drew ?_ | refine blk_alloc ?_ _)); exact BK108.out)) : gb112 ≠ gb108)); clear BK104; clear BK108; clear HB; have BK104 := n0_; have BK108 := n1_; have HB := n2_; have BK112 := n3_; have GW112 := n4_; have GE112 := n5_; have NB104_112 := n6_; have NB112_104 := n7_; have NB108_112 := n8_; have NB112_108 := n9_; clear n0_ n1_ n2_ n3_ n4_ n5_ n6_ n7_ n8_ n9_; clear hb hbox hg; have hnb81 := NB112_104.out; have hnc81 := NB104_112.out; have hnb82 := NB112_108.out; have hnc82 := NB108_112.out; have hcz83_0 : w80.cell? ⟨gb112, 0, none⟩ = some (.int .i64 0) := (blk_cell BK112.out 0).trans rfl; have hcz83_1 : w80.cell? ⟨gb112, 1, none⟩ = some (.int .i64 0) := (blk_cell BK112.out 1).trans rfl; have hfz83_0 := blk_frozen BK112.out 0; have hfz83_1 := blk_frozen BK112.out 1) | ((with_reducible refine gate_callee (f := 15) rfl ?_); refine goesL_ (some 22) rfl rfl Tryd.func15 (by kernel_rfl) rfl #[.int .i64 16, .string (⟨#[103, 114, 101, 101, 110]⟩ : ByteArray)] rfl (by (try simp only [List.map_toArray, List.map_cons, List.map_nil]); first | done | rfl | (simp only [List.length_drop, List.length_take]; rfl)) ?_; (with_reducible refine (value_Read.calls 16 (⟨#[103, 114, 101, 101, 110]⟩ : ByteArray) t113 t114 true _ A4.out).mono ?_); rintro e w84 ⟨rfl, hb⟩; refine ⟨_, rfl, ?_⟩; have n0_ := Aside0.mk (blk_below (g := gb104) (o := .cells #[.int .i64 t101, .int .i64 t102] 23 (0, 0)) (by (with_reducible repeat (first | refine blk_drewN ?_ _ | refine blk_drew ?_ | refine blk_alloc ?_ _)); refine blk_far ?_ NB104_112.out _; (with_reducible repeat (first | refine blk_drewN ?_ _ | refine blk_drew ?_ | refine blk_alloc ?_ _)); refine blk_far ?_ NB104_112.out _; (with_reducible repeat (first | refine blk_drewN ?_ _ | refine blk_drew ?_ | refine blk_alloc ?_ _)); exact BK104.out) hb); have n1_ := Aside0.mk (blk_below (g := gb108) (o := .cells #[.int .i64 t105, .int .i64 t106] 23 (0, 0)) (by (with_reducible repeat (first | refine blk_drewN ?_ _ | refine blk_drew ?_ | refine blk_alloc ?_ _)); refine blk_far ?_ NB108_112.out _; (with_reducible repeat (first | refine blk_drewN ?_ _ | refine blk_drew ?_ | refine blk_alloc ?_ _)); refine blk_far ?_ NB108_112.out _; (with_reducible repeat (first | refine blk_drewN ?_ _ | refine blk_drew ?_ | refine blk_alloc ?_ _)); exact BK108.out) hb); have n2_ := Aside0.mk (blk_below (g := gb112) (o := .cells #[.int .i64 t109, .int .i64 t110] 23 (0, 0)) (by (with_reducible repeat (first | refine blk_drewN ?_ _ | refine blk_drew ?_ | refine blk_alloc ?_ _)); refine blk_put (cs := #[.int .i64 t109, .int .i64 0]) ?_ 1 _ rfl; (with_reducible repeat (first | refine blk_drewN ?_ _ | refine blk_drew ?_ | refine blk_alloc ?_ _)); refine blk_put (cs := #[.int .i64 0, .int .i64 0]) ?_ 0 _ rfl; (with_reducible repeat (first | refine blk_drewN ?_ _ | refine blk_drew ?_ | refine blk_alloc ?_ _)); exact BK112.out) hb); have n3_ := Aside0.mk (below_step (by repeat (first | (with_reducible first | exact HB.out | apply below_alloc | apply pw_below_drewN | apply below_drew1 | refine below_set ?_ GE104.out | refine below_set ?_ GE108.out | refine below_set ?_ GE112.out) | exact HB.out)) hb); clear BK104; clear BK108; clear BK112; clear HB; have BK104 := n0_; have BK108 := n1_; have BK112 := n2_; have HB := n3_; clear n0_ n1_ n2_ n3_; (try clear hb); (try clear hb2); (try clear hk); (try clear hi)) | ((with_reducible refine gate_dst (N := 7) rfl ?_); refine box_event ?hg (N := 7) ?hd (cs := #[.int .i64 0, .int .i64 0]) (t := 23) ?hr ?_; (case hd => rfl); (case hg => rfl); (case hr => first | (go_simp; done) | (go_simp; rfl)); intro gb116 hg w85 hbox hb; have n0_ := Aside0.mk (blk_below (g := gb104) (o := .cells #[.int .i64 t101, .int .i64 t102] 23 (0, 0)) (by (with_reducible repeat (first | refine blk_drewN ?_ _ | refine blk_drew ?_ | refine blk_alloc ?_ _)); exact BK104.out) hb); have n1_ := Aside0.mk (blk_below (g := gb108) (o := .cells #[.int .i64 t105, .int .i64 t106] 23 (0, 0)) (by (with_reducible repeat (first | refine blk_drewN ?_ _ | refine blk_drew ?_ | refine blk_alloc ?_ _)); exact BK108.out) hb); have n2_ := Aside0.mk (blk_below (g := gb112) (o := .cells #[.int .i64 t109, .int .i64 t110] 23 (0, 0)) (by (with_reducible repeat (first | refine blk_drewN ?_ _ | refine blk_drew ?_ | refine blk_alloc ?_ _)); exact BK112.out) hb); have n3_ := Aside0.mk (below_step (by repeat (first | (with_reducible first | exact HB.out | apply below_alloc | apply pw_below_drewN | apply below_drew1 | refine below_set ?_ GE104.out | refine below_set ?_ GE108.out | refine below_set ?_ GE112.out) | exact HB.out)) hb); have n4_ := Aside0.mk (hbox); have n5_ := Aside0.mk ((by rw [hg]; exact (below_size (by repeat (first | (with_reducible first | exact HB.out | apply below_alloc | apply pw_below_drewN | apply below_drew1 | refine below_set ?_ GE104.out | refine below_set ?_ GE108.out | refine below_set ?_ GE112.out) | exact HB.out))) : w.heap.size ≤ gb116)); have n6_ := Aside0.mk ((by rw [hg]; exact (below_size (by repeat (first | (with_reducible first | exact HB.out | apply below_alloc | apply pw_below_drewN | apply below_drew1 | refine below_set ?_ GE104.out | refine below_set ?_ GE108.out | refine below_set ?_ GE112.out) | exact HB.out))) : w.heap.size ≤ gb116)); have n7_ := Aside0.mk ((by rw [hg]; exact Nat.ne_of_lt (blk_lt (g := gb104) (o := .cells #[.int .i64 t101, .int .i64 t102] 23 (0, 0)) (by (with_reducible repeat (first | refine blk_drewN ?_ _ | refine blk_drew ?_ | refine blk_alloc ?_ _)); exact BK104.out)) : gb104 ≠ gb116)); have n8_ := Aside0.mk ((by rw [hg]; exact Nat.ne_of_gt (blk_lt (g := gb104) (o := .cells #[.int .i64 t101, .int .i64 t102] 23 (0, 0)) (by (with_reducible repeat (first | refine blk_drewN ?_ _ | refine blk_drew ?_ | refine blk_alloc ?_ _)); exact BK104.out)) : gb116 ≠ gb104)); have n9_ := Aside0.mk ((by rw [hg]; exact Nat.ne_of_lt (blk_lt (g := gb108) (o := .cells #[.int .i64 t105, .int .i64 t106] 23 (0, 0)) (by (with_reducible repeat (first | refine blk_drewN ?_ _ | refine blk_drew ?_ | refine blk_alloc ?_ _)); exact BK108.out)) : gb108 ≠ gb116)); have n10_ := Aside0.mk ((by rw [hg]; exact Nat.ne_of_gt (blk_lt (g := gb108) (o := .cells #[.int .i64 t105, .int .i64 t106] 23 (0, 0)) (by (with_reducible repeat (first | refine blk_drewN ?_ _ | refine blk_drew ?_ | refine blk_alloc ?_ _)); exact BK108.out)) : gb116 ≠ gb108)); have n11_ := Aside0.mk ((by rw [hg]; exact Nat.ne_of_lt (blk_lt (g := gb112) (o := .cells #[.int .i64 t109, .int .i64 t110] 23 (0, 0)) (by (with_reducible repeat (first | refine blk_drewN ?_ _ | refine blk_drew ?_ | refine blk_alloc ?_ _)); exact BK112.out)) : gb112 ≠ gb116)); have n12_ := Aside0.mk ((by rw [hg]; exact Nat.ne_of_gt (blk_lt (g := gb112) (o := .cells #[.int .i64 t109, .int .i64 t110] 23 (0, 0)) (by (with_reducible repeat (first | refine blk_drewN ?_ _ | refine blk_drew ?_ | refine blk_alloc ?_ _)); exact BK112.out)) : gb116 ≠ gb112)); clear BK104; clear BK108; clear BK112; clear HB; have BK104 := n0_; have BK108 := n1_; have BK112 := n2_; have HB := n3_; have BK116 := n4_; have GW116 := n5_; have GE116 := n6_; have NB104_116 := n7_; have NB116_104 := n8_; have NB108_116 := n9_; have NB116_108 := n10_; have NB112_116 := n11_; have NB116_112 := n12_; clear n0_ n1_ n2_ n3_ n4_ n5_ n6_ n7_ n8_ n9_ n10_ n11_ n12_; clear hb hbox hg; have hnb86 := NB116_104.out; have hnc86 := NB104_116.out; have hnb87 := NB116_108.out; have hnc87 := NB108_116.out; have hnb88 := NB116_112.out; have hnc88 := NB112_116.out; have hcz89_0 : w85.cell? ⟨gb116, 0, none⟩ = some (.int .i64 0) := (blk_cell BK116.out 0).trans rfl; have hcz89_1 : w85.cell? ⟨gb116, 1, none⟩ = some (.int .i64 0) := (blk_cell BK116.out 1).trans rfl; have hfz89_0 := blk_frozen BK116.out 0; have hfz89_1 := blk_frozen BK116.out 1; have hcz90_0 : w85.cell? ⟨gb104, 0, none⟩ = some (.int .i64 t101) := (blk_cell BK104.out 0).trans rfl; have hcz90_1 : w85.cell? ⟨gb104, 1, none⟩ = some (.int .i64 t102) := (blk_cell BK104.out 1).trans rfl; have hfz90_0 := blk_frozen BK104.out 0; have hfz90_1 := blk_frozen BK104.out 1; have hcz91_0 : w85.cell? ⟨gb108, 0, none⟩ = some (.int .i64 t105) := (blk_cell BK108.out 0).trans rfl; have hcz91_1 : w85.cell? ⟨gb108, 1, none⟩ = some (.int .i64 t106) := (blk_cell BK108.out 1).trans rfl; have hfz91_0 := blk_frozen BK108.out 0; have hfz91_1 := blk_frozen BK108.out 1) | (go_at_call 17; (with_reducible refine (value_Prop.calls (⟨#[111, 114, 100, 101, 114]⟩ : ByteArray) t117 _ A32.out).mono ?_); rintro e w92 ⟨rfl, hb⟩; have n0_ := Aside0.mk (blk_below (g := gb104) (o := .cells #[.int .i64 t101, .int .i64 t102] 23 (0, 0)) (by (with_reducible repeat (first | refine blk_drewN ?_ _ | refine blk_drew ?_ | refine blk_alloc ?_ _)); refine blk_far ?_ NB104_116.out _; (with_reducible repeat (first | refine blk_drewN ?_ _ | refine blk_drew ?_ | refine blk_alloc ?_ _)); refine blk_far ?_ NB104_116.out _; (with_reducible repeat (first | refine blk_drewN ?_ _ | refine blk_drew ?_ | refine blk_alloc ?_ _)); exact BK104.out) hb); have n1_ := Aside0.mk (blk_below (g := gb108) (o := .cells #[.int .i64 t105, .int .i64 t106] 23 (0, 0)) (by (with_reducible repeat (first | refine blk_drewN ?_ _ | refine blk_drew ?_ | refine blk_alloc ?_ _)); refine blk_far ?_ NB108_116.out _; (with_reducible repeat (first | refine blk_drewN ?_ _ | refine blk_drew ?_ | refine blk_alloc ?_ _)); refine blk_far ?_ NB108_116.out _; (with_reducible repeat (first | refine blk_drewN ?_ _ | refine blk_drew ?_ | refine blk_alloc ?_ _)); exact BK108.out) hb); have n2_ := Aside0.mk (blk_below (g := gb112) (o := .cells #[.int .i64 t109, .int .i64 t110] 23 (0, 0)) (by (with_reducible repeat (first | refine blk_drewN ?_ _ | refine blk_drew ?_ | refine blk_alloc ?_ _)); refine blk_far ?_ NB112_116.out _; (with_reducible repeat (first | refine blk_drewN ?_ _ | refine blk_drew ?_ | refine blk_alloc ?_ _)); refine blk_far ?_ NB112_116.out _; (with_reducible repeat (first | refine blk_drewN ?_ _ | refine blk_drew ?_ | refine blk_alloc ?_ _)); exact BK112.out) hb); have n3_ := Aside0.mk (blk_below (g := gb116) (o := .cells #[.int .i64 t113, .int .i64 t114] 23 (0, 0)) (by (with_reducible repeat (first | refine blk_drewN ?_ _ | refine blk_drew ?_ | refine blk_alloc ?_ _)); refine blk_put (cs := #[.int .i64 t113, .int .i64 0]) ?_ 1 _ rfl; (with_reducible repeat (first | refine blk_drewN ?_ _ | refine blk_drew ?_ | refine blk_alloc ?_ _)); refine blk_put (cs := #[.int .i64 0, .int .i64 0]) ?_ 0 _ rfl; (with_reducible repeat (first | refine blk_drewN ?_ _ | refine blk_drew ?_ | refine blk_alloc ?_ _)); exact BK116.out) hb); have n4_ := Aside0.mk (below_step (by repeat (first | (with_reducible first | exact HB.out | apply below_alloc | apply pw_below_drewN | apply below_drew1 | refine below_set ?_ GE104.out | refine below_set ?_ GE108.out | refine below_set ?_ GE112.out | refine below_set ?_ GE116.out) | exact HB.out)) hb); clear BK104; clear BK108; clear BK112; clear BK116; clear HB; have BK104 := n0_; have BK108 := n1_; have BK112 := n2_; have BK116 := n3_; have HB := n4_; clear n0_ n1_ n2_ n3_ n4_; (try clear hb); (try clear hb2); (try clear hk); (try clear hi)) | (go_at_call 18; (with_reducible refine (value_Name.calls 7 t118 _ A34.out).mono ?_); rintro e w93 ⟨rfl, hb⟩; have n0_ := Aside0.mk (blk_below (g := gb104) (o := .cells #[.int .i64 t101, .int .i64 t102] 23 (0, 0)) (by (with_reducible repeat (first | refine blk_drewN ?_ _ | refine blk_drew ?_ | refine blk_alloc ?_ _)); exact BK104.out) hb); have n1_ := Aside0.mk (blk_below (g := gb108) (o := .cells #[.int .i64 t105, .int .i64 t106] 23 (0, 0)) (by (with_reducible repeat (first | refine blk_drewN ?_ _ | refine blk_drew ?_ | refine blk_alloc ?_ _)); exact BK108.out) hb); have n2_ := Aside0.mk (blk_below (g := gb112) (o := .cells #[.int .i64 t109, .int .i64 t110] 23 (0, 0)) (by (with_reducible repeat (first | refine blk_drewN ?_ _ | refine blk_drew ?_ | refine blk_alloc ?_ _)); exact BK112.out) hb); have n3_ := Aside0.mk (blk_below (g := gb116) (o := .cells #[.int .i64 t113, .int .i64 t114] 23 (0, 0)) (by (with_reducible repeat (first | refine blk_drewN ?_ _ | refine blk_drew ?_ | refine blk_alloc ?_ _)); exact BK116.out) hb); have n4_ := Aside0.mk (below_step (by repeat (first | (with_reducible first | exact HB.out | apply below_alloc | apply pw_below_drewN | apply below_drew1 | refine below_set ?_ GE104.out | refine below_set ?_ GE108.out | refine below_set ?_ GE112.out | refine below_set ?_ GE116.out) | exact HB.out)) hb); clear BK104; clear BK108; clear BK112; clear BK116; clear HB; have BK104 := n0_; have BK108 := n1_; have BK112 := n2_; have BK116 := n3_; have HB := n4_; clear n0_ n1_ n2_ n3_ n4_; (try clear hb); (try clear hb2); (try clear hk); (try clear hi)) | (go_at_call 16; (with_reducible refine (value_May.calls 26 2 (-1) true _ A36.out).mono ?_); rintro e w94 ⟨rfl, hb⟩; have n0_ := Aside0.mk (blk_below (g := gb104) (o := .cells #[.int .i64 t101, .int .i64 t102] 23 (0, 0)) (by (with_reducible repeat (first | refine blk_drewN ?_ _ | refine blk_drew ?_ | refine blk_alloc ?_ _)); exact BK104.out) hb); have n1_ := Aside0.mk (blk_below (g := gb108) (o := .cells #[.int .i64 t105, .int .i64 t106] 23 (0, 0)) (by (with_reducible repeat (first | refine blk_drewN ?_ _ | refine blk_drew ?_ | refine blk_alloc ?_ _)); exact BK108.out) hb); have n2_ := Aside0.mk (blk_below (g := gb112) (o := .cells #[.int .i64 t109, .int .i64 t110] 23 (0, 0)) (by (with_reducible repeat (first | refine blk_drewN ?_ _ | refine blk_drew ?_ | refine blk_alloc ?_ _)); exact BK112.out) hb); have n3_ := Aside0.mk (blk_below (g := gb116) (o := .cells #[.int .i64 t113, .int .i64 t114] 23 (0, 0)) (by (with_reducible repeat (first | refine blk_drewN ?_ _ | refine blk_drew ?_ | refine blk_alloc ?_ _)); exact BK116.out) hb); have n4_ := Aside0.mk (below_step (by repeat (first | (with_reducible first | exact HB.out | apply below_alloc | apply pw_below_drewN | apply below_drew1 | refine below_set ?_ GE104.out | refine below_set ?_ GE108.out | refine below_set ?_ GE112.out | refine below_set ?_ GE116.out) | exact HB.out)) hb); clear BK104; clear BK108; clear BK112; clear BK116; clear HB; have BK104 := n0_; have BK108 := n1_; have BK112 := n2_; have BK116 := n3_; have HB := n4_; clear n0_ n1_ n2_ n3_ n4_; (try clear hb); (try clear hb2); (try clear hk); (try clear hi); have hcz95_0 : w94.cell? ⟨gb104, 0, none⟩ = some (.int .i64 t101) := (blk_cell BK104.out 0).trans rfl; have hcz95_1 : w94.cell? ⟨gb104, 1, none⟩ = some (.int .i64 t102) := (blk_cell BK104.out 1).trans rfl; have hfz95_0 := blk_frozen BK104.out 0; have hfz95_1 := blk_frozen BK104.out 1) | (go_at_call 14; (with_reducible refine (value_Print.calls 2 t101 t102 t120 _ A38.out (HMX.out.below (by repeat (first | (with_reducible first | exact HB.out | apply below_alloc | apply pw_below_drewN | apply below_drew1 | refine below_set ?_ GE104.out | refine below_set ?_ GE108.out | refine below_set ?_ GE112.out | refine below_set ?_ GE116.out) | exact HB.out)))).mono ?_); rintro e w96 ⟨rfl, hb⟩; have n0_ := Aside0.mk (blk_below (g := gb104) (o := .cells #[.int .i64 t101, .int .i64 t102] 23 (0, 0)) (by (with_reducible repeat (first | refine blk_drewN ?_ _ | refine blk_drew ?_ | refine blk_alloc ?_ _)); exact BK104.out) hb); have n1_ := Aside0.mk (blk_below (g := gb108) (o := .cells #[.int .i64 t105, .int .i64 t106] 23 (0, 0)) (by (with_reducible repeat (first | refine blk_drewN ?_ _ | refine blk_drew ?_ | refine blk_alloc ?_ _)); exact BK108.out) hb); have n2_ := Aside0.mk (blk_below (g := gb112) (o := .cells #[.int .i64 t109, .int .i64 t110] 23 (0, 0)) (by (with_reducible repeat (first | refine blk_drewN ?_ _ | refine blk_drew ?_ | refine blk_alloc ?_ _)); exact BK112.out) hb); have n3_ := Aside0.mk (blk_below (g := gb116) (o := .cells #[.int .i64 t113, .int .i64 t114] 23 (0, 0)) (by (with_reducible repeat (first | refine blk_drewN ?_ _ | refine blk_drew ?_ | refine blk_alloc ?_ _)); exact BK116.out) hb); have n4_ := Aside0.mk (below_step (by repeat (first | (with_reducible first | exact HB.out | apply below_alloc | apply pw_below_drewN | apply below_drew1 | refine below_set ?_ GE104.out | refine below_set ?_ GE108.out | refine below_set ?_ GE112.out | refine below_set ?_ GE116.out) | exact HB.out)) hb); clear BK104; clear BK108; clear BK112; clear BK116; clear HB; have BK104 := n0_; have BK108 := n1_; have BK112 := n2_; have BK116 := n3_; have HB := n4_; clear n0_ n1_ n2_ n3_ n4_; (try clear hb); (try clear hb2); (try clear hk); (try clear hi)) | (go_at_call 19; (with_reducible refine (value_First.calls 18 t121 t122 _ A40.out).mono ?_); rintro e w97 ⟨rfl, hb⟩; have n0_ := Aside0.mk (blk_below (g := gb104) (o := .cells #[.int .i64 t101, .int .i64 t102] 23 (0, 0)) (by (with_reducible repeat (first | refine blk_drewN ?_ _ | refine blk_drew ?_ | refine blk_alloc ?_ _)); exact BK104.out) hb); have n1_ := Aside0.mk (blk_below (g := gb108) (o := .cells #[.int .i64 t105, .int .i64 t106] 23 (0, 0)) (by (with_reducible repeat (first | refine blk_drewN ?_ _ | refine blk_drew ?_ | refine blk_alloc ?_ _)); exact BK108.out) hb); have n2_ := Aside0.mk (blk_below (g := gb112) (o := .cells #[.int .i64 t109, .int .i64 t110] 23 (0, 0)) (by (with_reducible repeat (first | refine blk_drewN ?_ _ | refine blk_drew ?_ | refine blk_alloc ?_ _)); exact BK112.out) hb); have n3_ := Aside0.mk (blk_below (g := gb116) (o := .cells #[.int .i64 t113, .int .i64 t114] 23 (0, 0)) (by (with_reducible repeat (first | refine blk_drewN ?_ _ | refine blk_drew ?_ | refine blk_alloc ?_ _)); exact BK116.out) hb); have n4_ := Aside0.mk (below_step (by repeat (first | (with_reducible first | exact HB.out | apply below_alloc | apply pw_below_drewN | apply below_drew1 | refine below_set ?_ GE104.out | refine below_set ?_ GE108.out | refine below_set ?_ GE112.out | refine below_set ?_ GE116.out) | exact HB.out)) hb); clear BK104; clear BK108; clear BK112; clear BK116; clear HB; have BK104 := n0_; have BK108 := n1_; have BK112 := n2_; have BK116 := n3_; have HB := n4_; clear n0_ n1_ n2_ n3_ n4_; (try clear hb); (try clear hb2); (try clear hk); (try clear hi)) | (go_at_call 20; (with_reducible refine (value_Passed.calls 16 true _ A42.out).mono ?_); rintro e w' ⟨rfl, ⟨nd, rfl⟩⟩) | (go_at_call 20; (with_reducible refine (value_Passed.calls 2 false _ A44.out).mono ?_); rintro e w' ⟨rfl, ⟨nd, rfl⟩⟩))
                              go_ret
                              exact ⟨by first | rfl | (simp [errW_none, errW_some] <;> rfl) | (simp [*, errW_none, errW_some] <;> rfl), by repeat (first | (with_reducible first | exact HB.out | apply below_alloc | apply pw_below_drewN | apply below_drew1 | refine below_set ?_ GE104.out | refine below_set ?_ GE108.out | refine below_set ?_ GE112.out | refine below_set ?_ GE116.out) | exact HB.out)⟩
                          · replace c43 := Bool.eq_false_iff.mpr c43
                            subst c43
                            have H1 : (some false) = some r := by rw [if_neg (show ¬ (false = true) by decide)] at H; exact H
                            clear H
                            have H := H1
                            clear H1
                            exact absurd ((Option.some.inj H).trans hrt) (by decide)
                        · rw [if_neg c41] at H
                          have c41b0 : (t122 == 1024) = false := beq_eq_false_iff_ne.mpr c41
                          have c41b1 : (t122 != 1024) = true := bne_iff_ne.mpr c41
                          exact absurd ((Option.some.inj H).trans hrt) (by decide)
                      · rw [if_neg c39] at H
                        have c39b0 : (t120.toList == ([49, 46, 53, 112, 120] : List UInt8)) = false := beq_eq_false_iff_ne.mpr c39
                        have c39b1 : (t120.toList != ([49, 46, 53, 112, 120] : List UInt8)) = true := bne_iff_ne.mpr c39
                        exact absurd ((Option.some.inj H).trans hrt) (by decide)
                    · replace c37 := Bool.eq_false_iff.mpr c37
                      subst c37
                      have H1 : (some false) = some r := by rw [if_neg (show ¬ (false = true) by decide)] at H; exact H
                      clear H
                      have H := H1
                      clear H1
                      exact absurd ((Option.some.inj H).trans hrt) (by decide)
                  · rw [if_neg c35] at H
                    have c35b0 : (t118.toList == ([109, 97, 114, 103, 105, 110, 45, 108, 101, 102, 116] : List UInt8)) = false := beq_eq_false_iff_ne.mpr c35
                    have c35b1 : (t118.toList != ([109, 97, 114, 103, 105, 110, 45, 108, 101, 102, 116] : List UInt8)) = true := bne_iff_ne.mpr c35
                    exact absurd ((Option.some.inj H).trans hrt) (by decide)
                · rw [if_neg c33] at H
                  have c33b0 : (t117 == 24) = false := beq_eq_false_iff_ne.mpr c33
                  have c33b1 : (t117 != 24) = true := bne_iff_ne.mpr c33
                  exact absurd ((Option.some.inj H).trans hrt) (by decide)
              · replace c31 := Bool.eq_false_iff.mpr c31
                subst c31
                have H1 : (some false) = some r := by rw [if_neg (show ¬ (false = true) by decide)] at H; exact H
                clear H
                have H := H1
                clear H1
                exact absurd ((Option.some.inj H).trans hrt) (by decide)
            · rw [if_neg c30] at H
              have c30b0 : (t114 == 32768) = false := beq_eq_false_iff_ne.mpr c30
              have c30b1 : (t114 != 32768) = true := bne_iff_ne.mpr c30
              exact absurd ((Option.some.inj H).trans hrt) (by decide)
        · replace c8 := Bool.eq_false_iff.mpr c8
          subst c8
          have H1 : (some false) = some r := by rw [if_neg (show ¬ (false = true) by decide)] at H; exact H
          clear H
          have H := H1
          clear H1
          exact absurd ((Option.some.inj H).trans hrt) (by decide)
      · rw [if_neg c7] at H
        have c7b0 : (t105 == 3 && (t106 == 3200)) = false := by simpa using c7
        (try (have c7b1 : decide (t105 = 3 && (t106 == 3200)) = false := by simpa using c7))
        (try (have c7b2 : (t105 == 3 && (t106 == 3200)) = false := by simpa using c7))
        (try (have c7b3 : ¬ (t105 = 3 && (t106 == 3200)) := by simpa using c7))
        clear c7
        exact absurd ((Option.some.inj H).trans hrt) (by decide)
    · replace c6 := Bool.eq_false_iff.mpr c6
      subst c6
      have H1 : (some false) = some r := by rw [if_neg (show ¬ (false = true) by decide)] at H; exact H
      clear H
      have H := H1
      clear H1
      exact absurd ((Option.some.inj H).trans hrt) (by decide)
  · rw [if_neg c5] at H
    have c5b0 : (t101 == 2 && (t102 == 96)) = false := by simpa using c5
    (try (have c5b1 : decide (t101 = 2 && (t102 == 96)) = false := by simpa using c5))
    (try (have c5b2 : (t101 == 2 && (t102 == 96)) = false := by simpa using c5))
    (try (have c5b3 : ¬ (t101 = 2 && (t102 == 96)) := by simpa using c5))
    clear c5
    exact absurd ((Option.some.inj H).trans hrt) (by decide)

/-! ### scrimlaw08_ValueNames: function 5 -/
mutual
def scrimlaw08_ValueNames.j0 : Nat → Int → Bool → Option (Bool)
  | 0, _, _ => none
  | k + 1, x0, x28 => if x28 = true then (some false) else (if x0 < 1 then (scrimlaw08_ValueNames.j1 k x0 true) else (scrimlaw08_ValueNames.j1 k x0 (decide (x0 ≥ 27))))
def scrimlaw08_ValueNames.j1 : Nat → Int → Bool → Option (Bool)
  | 0, _, _ => none
  | k + 1, x0, x34 => if x34 = true then ((value_Name.f x0).bind fun t128 => (if t128.toList = ([] : List UInt8) then ((value_First.f x0).bind fun bt129 => (if (bt129.1 == 0 && (bt129.2 == 0)) = true then ((value_Passed.f x0).bind fun t131 => (some (!t131))) else (some false))) else (some false))) else ((value_Name.f x0).bind fun t132 => ((value_Prop.f t132).bind fun t133 => (if t133 = x0 then ((value_First.f x0).bind fun bt134 => ((value_May.f x0 bt134.1 bt134.2).bind fun t136 => (some t136))) else (some false))))
end
def scrimlaw08_ValueNames.f (k : Nat) (a0 : Int) (a1 : ByteArray) : Option (Bool) := (scrimlaw08_awake.f).bind fun t125 => (if t125 = true then (if (a1.size : Int) > 200 then (some true) else ((value_Prop.f a1).bind fun t126 => (if t126 = 0 then (if t126 < 0 then (scrimlaw08_ValueNames.j0 k a0 true) else (scrimlaw08_ValueNames.j0 k a0 (decide (t126 ≥ 27)))) else ((value_Name.f t126).bind fun t127 => (if t127.toList = a1.toList then (if t126 < 0 then (scrimlaw08_ValueNames.j0 k a0 true) else (scrimlaw08_ValueNames.j0 k a0 (decide (t126 ≥ 27)))) else (scrimlaw08_ValueNames.j0 k a0 true)))))) else (some false))
theorem scrimlaw08_ValueNames.mono_l : ∀ k, (∀ y0 y1, LeO (scrimlaw08_ValueNames.j0 k y0 y1) (scrimlaw08_ValueNames.j0 (k + 1) y0 y1)) ∧ (∀ y0 y1, LeO (scrimlaw08_ValueNames.j1 k y0 y1) (scrimlaw08_ValueNames.j1 (k + 1) y0 y1))
  | 0 => ⟨fun _ _ r h => by simp [scrimlaw08_ValueNames.j0] at h, fun _ _ r h => by simp [scrimlaw08_ValueNames.j1] at h⟩
  | k + 1 => by
    obtain ⟨ih0, ih1⟩ := scrimlaw08_ValueNames.mono_l k
    refine ⟨?_, ?_⟩
    · intro y0 y1
      unfold scrimlaw08_ValueNames.j0
      repeat' first
      | (with_reducible exact ih0 _ _)
      | (with_reducible exact ih1 _ _)
      | (with_reducible exact LeO.refl _)
      | (with_reducible exact LeO.none _)
      | (with_reducible refine LeO.ite ?_ ?_)
      | (with_reducible refine LeO.bind ?_ (fun _ => ?_))
      | exact ih0 _ _
      | exact ih1 _ _
      | exact LeO.none _
      | refine LeO.ite ?_ ?_
      | refine LeO.bind ?_ (fun _ => ?_)
    · intro y0 y1
      unfold scrimlaw08_ValueNames.j1
      repeat' first
      | (with_reducible exact ih0 _ _)
      | (with_reducible exact ih1 _ _)
      | (with_reducible exact LeO.refl _)
      | (with_reducible exact LeO.none _)
      | (with_reducible refine LeO.ite ?_ ?_)
      | (with_reducible refine LeO.bind ?_ (fun _ => ?_))
      | exact ih0 _ _
      | exact ih1 _ _
      | exact LeO.none _
      | refine LeO.ite ?_ ?_
      | refine LeO.bind ?_ (fun _ => ?_)
theorem scrimlaw08_ValueNames.mono : ∀ a0 a1 k, LeO (scrimlaw08_ValueNames.f k a0 a1) (scrimlaw08_ValueNames.f (k + 1) a0 a1) := by
  intro a0 a1 k
  obtain ⟨ih0, ih1⟩ := scrimlaw08_ValueNames.mono_l k
  unfold scrimlaw08_ValueNames.f
  repeat' first
      | (with_reducible exact ih0 _ _)
      | (with_reducible exact ih1 _ _)
      | (with_reducible exact LeO.refl _)
      | (with_reducible exact LeO.none _)
      | (with_reducible refine LeO.ite ?_ ?_)
      | (with_reducible refine LeO.bind ?_ (fun _ => ?_))
      | exact ih0 _ _
      | exact ih1 _ _
      | exact LeO.none _
      | refine LeO.ite ?_ ?_
      | refine LeO.bind ?_ (fun _ => ?_)
set_option maxHeartbeats 8000000 in
set_option maxRecDepth 100000 in
theorem scrimlaw08_ValueNames.calls (k : Nat) (a0 : Int) (a1 : ByteArray) (r : Bool) (hrt : r = true) (w : World) (h : scrimlaw08_ValueNames.f k a0 a1 = some r) (hmx : Go.Proofs.Val.Tbs w) :
    Calls Tryd.prog 5 #[.int .i64 a0, .string a1] w fun e w' => e = .returned (.bool r) ∧ Below w.heap.size w w' := by
  have HMX := Aside0.mk hmx
  clear hmx
  have hu23 := Tryd.underlying23
  have HB := Aside0.mk (Below.refl w.heap.size w)
  have H : ((scrimlaw08_awake.f).bind fun t125 => (if t125 = true then (if (a1.size : Int) > 200 then (some true) else ((value_Prop.f a1).bind fun t126 => (if t126 = 0 then (if t126 < 0 then (scrimlaw08_ValueNames.j0 k a0 true) else (scrimlaw08_ValueNames.j0 k a0 (decide (t126 ≥ 27)))) else ((value_Name.f t126).bind fun t127 => (if t127.toList = a1.toList then (if t126 < 0 then (scrimlaw08_ValueNames.j0 k a0 true) else (scrimlaw08_ValueNames.j0 k a0 (decide (t126 ≥ 27)))) else (scrimlaw08_ValueNames.j0 k a0 true)))))) else (some false))) = some r := h
  clear h
  replace H := Option.bind_eq_some_iff.mp H
  obtain ⟨t125, A30, H⟩ := H
  replace H : (if t125 = true then (if (a1.size : Int) > 200 then (some true) else ((value_Prop.f a1).bind fun t126 => (if t126 = 0 then (if t126 < 0 then (scrimlaw08_ValueNames.j0 k a0 true) else (scrimlaw08_ValueNames.j0 k a0 (decide (t126 ≥ 27)))) else ((value_Name.f t126).bind fun t127 => (if t127.toList = a1.toList then (if t126 < 0 then (scrimlaw08_ValueNames.j0 k a0 true) else (scrimlaw08_ValueNames.j0 k a0 (decide (t126 ≥ 27)))) else (scrimlaw08_ValueNames.j0 k a0 true)))))) else (some false)) = some r := H
  have A3 := Aside0.mk A30
  clear A30
  by_cases c4 : t125 = true
  · subst c4
    have H1 : (if (a1.size : Int) > 200 then (some true) else ((value_Prop.f a1).bind fun t126 => (if t126 = 0 then (if t126 < 0 then (scrimlaw08_ValueNames.j0 k a0 true) else (scrimlaw08_ValueNames.j0 k a0 (decide (t126 ≥ 27)))) else ((value_Name.f t126).bind fun t127 => (if t127.toList = a1.toList then (if t126 < 0 then (scrimlaw08_ValueNames.j0 k a0 true) else (scrimlaw08_ValueNames.j0 k a0 (decide (t126 ≥ 27)))) else (scrimlaw08_ValueNames.j0 k a0 true)))))) = some r := by rw [if_pos rfl] at H; exact H
    clear H
    have H := H1
    clear H1
    by_cases c5 : (a1.size : Int) > 200
    · rw [if_pos c5] at H
      have c5b0 : decide (200 < (a1.size : Int)) = true := decide_eq_true c5
      have c5b1 : decide (200 < a1.size) = true := decide_eq_true (by omega)
      clear c5
      obtain rfl := Option.some.inj H; clear hrt; try clear H
      go_enter Tryd.func5, Tryd.ntmps5
      go_wp2_with (first | ((with_reducible refine gate_callee (f := 13) rfl ?_); refine goesL_ (some 6) rfl rfl Tryd.func13 (by kernel_rfl) rfl #[] rfl (by (try simp only [List.map_toArray, List.map_cons, List.map_nil]); first | done | rfl | (simp only [List.length_drop, List.length_take]; rfl)) ?_; (with_reducible refine (scrimlaw08_awake.calls  true rfl _ A3.out (HMX.out.below (by repeat (first | (with_reducible first | exact HB.out | apply below_alloc | apply pw_below_drewN | apply below_drew1) | exact HB.out)))).mono ?_); rintro e w6 ⟨rfl, hb⟩; refine ⟨_, rfl, ?_⟩; have n0_ := Aside0.mk (below_step (by repeat (first | (with_reducible first | exact HB.out | apply below_alloc | apply pw_below_drewN | apply below_drew1) | exact HB.out)) hb); clear HB; have HB := n0_; clear n0_; (try clear hb); (try clear hb2); (try clear hk); (try clear hi)))
      go_ret
      exact ⟨by first | rfl | (simp [errW_none, errW_some] <;> rfl) | (simp [*, errW_none, errW_some] <;> rfl), by repeat (first | (with_reducible first | exact HB.out | apply below_alloc | apply pw_below_drewN | apply below_drew1) | exact HB.out)⟩
    · rw [if_neg c5] at H
      have c5b0 : decide (200 < (a1.size : Int)) = false := decide_eq_false c5
      have c5b1 : decide (200 < a1.size) = false := decide_eq_false (by omega)
      clear c5
      replace H := Option.bind_eq_some_iff.mp H
      obtain ⟨t126, A70, H⟩ := H
      replace H : (if t126 = 0 then (if t126 < 0 then (scrimlaw08_ValueNames.j0 k a0 true) else (scrimlaw08_ValueNames.j0 k a0 (decide (t126 ≥ 27)))) else ((value_Name.f t126).bind fun t127 => (if t127.toList = a1.toList then (if t126 < 0 then (scrimlaw08_ValueNames.j0 k a0 true) else (scrimlaw08_ValueNames.j0 k a0 (decide (t126 ≥ 27)))) else (scrimlaw08_ValueNames.j0 k a0 true)))) = some r := H
      have A7 := Aside0.mk A70
      clear A70
      have HC8 := Aside0.mk H
      clear H
      go_enter Tryd.func5, Tryd.ntmps5
      go_upto_region 6 with (first | ((with_reducible refine gate_callee (f := 13) rfl ?_); refine goesL_ (some 6) rfl rfl Tryd.func13 (by kernel_rfl) rfl #[] rfl (by (try simp only [List.map_toArray, List.map_cons, List.map_nil]); first | done | rfl | (simp only [List.length_drop, List.length_take]; rfl)) ?_; (with_reducible refine (scrimlaw08_awake.calls  true rfl _ A3.out (HMX.out.below (by repeat (first | (with_reducible first | exact HB.out | apply below_alloc | apply pw_below_drewN | apply below_drew1) | exact HB.out)))).mono ?_); rintro e w9 ⟨rfl, hb⟩; refine ⟨_, rfl, ?_⟩; have n0_ := Aside0.mk (below_step (by repeat (first | (with_reducible first | exact HB.out | apply below_alloc | apply pw_below_drewN | apply below_drew1) | exact HB.out)) hb); clear HB; have HB := n0_; clear n0_; (try clear hb); (try clear hb2); (try clear hk); (try clear hi)) | ((with_reducible refine gate_callee (f := 17) rfl ?_); refine goesL_ (some 12) rfl rfl Tryd.func17 (by kernel_rfl) rfl #[.string a1] rfl (by (try simp only [List.map_toArray, List.map_cons, List.map_nil]); first | done | rfl | (simp only [List.length_drop, List.length_take]; rfl)) ?_; (with_reducible refine (value_Prop.calls a1 t126 _ A7.out).mono ?_); rintro e w10 ⟨rfl, hb⟩; refine ⟨_, rfl, ?_⟩; have n0_ := Aside0.mk (below_step (by repeat (first | (with_reducible first | exact HB.out | apply below_alloc | apply pw_below_drewN | apply below_drew1) | exact HB.out)) hb); clear HB; have HB := n0_; clear n0_; (try clear hb); (try clear hb2); (try clear hk); (try clear hi)))
      (try simp only [Act.put, List.setIfInBounds_toArray, List.set_cons_zero, List.set_cons_succ])
      go_cut [28] (fun v28 wc => ∃ (kq : Nat) (x28_7 : Bool), v28 = .bool x28_7 ∧ Aside0 (scrimlaw08_ValueNames.j0 kq a0 x28_7 = some r) ∧ Aside0 (kq ≤ k) ∧ Aside0 (Below w.heap.size w wc))
      case first =>
        have H := HC8.out
        clear HC8
        by_cases c11 : t126 = 0
        · rw [if_pos c11] at H
          have c11b0 : (t126 == 0) = true := beq_iff_eq.mpr c11
          have c11b1 : (t126 != 0) = false := bne_eq_false_iff_eq.mpr c11
          clear c11
          (first | rw [c11b0] | (simp only [i64_w, i32_w]; rw [c11b0]) | skip)
          by_cases c12 : t126 < 0
          · rw [if_pos c12] at H
            have c12b0 : decide (t126 < 0) = true := decide_eq_true c12
            clear c12
            have H' := Aside0.mk H
            clear H
            go_wp2
            go_meet
            case rel => exact ⟨_, (true), (by first | rfl | (simp; done) | (simp [*]; done)), H', ⟨by first | omega | exact Nat.le_refl _⟩, ⟨by repeat (first | (with_reducible first | exact HB.out | apply below_alloc | apply pw_below_drewN | apply below_drew1) | exact HB.out)⟩⟩
          · rw [if_neg c12] at H
            have c12b0 : decide (t126 < 0) = false := decide_eq_false c12
            clear c12
            have H' := Aside0.mk H
            clear H
            go_wp2
            go_meet
            case rel => exact ⟨_, (decide (t126 ≥ 27)), (by first | rfl | (simp; done) | (simp [*]; done)), H', ⟨by first | omega | exact Nat.le_refl _⟩, ⟨by repeat (first | (with_reducible first | exact HB.out | apply below_alloc | apply pw_below_drewN | apply below_drew1) | exact HB.out)⟩⟩
        · rw [if_neg c11] at H
          have c11b0 : (t126 == 0) = false := beq_eq_false_iff_ne.mpr c11
          have c11b1 : (t126 != 0) = true := bne_iff_ne.mpr c11
          (first | rw [c11b0] | (simp only [i64_w, i32_w]; rw [c11b0]) | skip)
          replace H := Option.bind_eq_some_iff.mp H
          obtain ⟨t127, A130, H⟩ := H
          replace H : (if t127.toList = a1.toList then (if t126 < 0 then (scrimlaw08_ValueNames.j0 k a0 true) else (scrimlaw08_ValueNames.j0 k a0 (decide (t126 ≥ 27)))) else (scrimlaw08_ValueNames.j0 k a0 true)) = some r := H
          have A13 := Aside0.mk A130
          clear A130
          by_cases c14 : t127.toList = a1.toList
          · rw [if_pos c14] at H
            have c14b0 : (t127.toList == a1.toList) = true := beq_iff_eq.mpr c14
            have c14b1 : (t127.toList != a1.toList) = false := bne_eq_false_iff_eq.mpr c14
            clear c14
            by_cases c15 : t126 < 0
            · rw [if_pos c15] at H
              have c15b0 : decide (t126 < 0) = true := decide_eq_true c15
              clear c15
              have H' := Aside0.mk H
              clear H
              go_wp2_with (first | (go_at_call 18; (with_reducible refine (value_Name.calls t126 t127 _ A13.out).mono ?_); rintro e w16 ⟨rfl, hb⟩; have n0_ := Aside0.mk (below_step (by repeat (first | (with_reducible first | exact HB.out | apply below_alloc | apply pw_below_drewN | apply below_drew1) | exact HB.out)) hb); clear HB; have HB := n0_; clear n0_; (try clear hb); (try clear hb2); (try clear hk); (try clear hi)))
              go_meet
              case rel => exact ⟨_, (true), (by first | rfl | (simp; done) | (simp [*]; done)), H', ⟨by first | omega | exact Nat.le_refl _⟩, ⟨by repeat (first | (with_reducible first | exact HB.out | apply below_alloc | apply pw_below_drewN | apply below_drew1) | exact HB.out)⟩⟩
            · rw [if_neg c15] at H
              have c15b0 : decide (t126 < 0) = false := decide_eq_false c15
              clear c15
              have H' := Aside0.mk H
              clear H
              go_wp2_with (first | (go_at_call 18; (with_reducible refine (value_Name.calls t126 t127 _ A13.out).mono ?_); rintro e w17 ⟨rfl, hb⟩; have n0_ := Aside0.mk (below_step (by repeat (first | (with_reducible first | exact HB.out | apply below_alloc | apply pw_below_drewN | apply below_drew1) | exact HB.out)) hb); clear HB; have HB := n0_; clear n0_; (try clear hb); (try clear hb2); (try clear hk); (try clear hi)))
              go_meet
              case rel => exact ⟨_, (decide (t126 ≥ 27)), (by first | rfl | (simp; done) | (simp [*]; done)), H', ⟨by first | omega | exact Nat.le_refl _⟩, ⟨by repeat (first | (with_reducible first | exact HB.out | apply below_alloc | apply pw_below_drewN | apply below_drew1) | exact HB.out)⟩⟩
          · rw [if_neg c14] at H
            have c14b0 : (t127.toList == a1.toList) = false := beq_eq_false_iff_ne.mpr c14
            have c14b1 : (t127.toList != a1.toList) = true := bne_iff_ne.mpr c14
            have H' := Aside0.mk H
            clear H
            go_wp2_with (first | (go_at_call 18; (with_reducible refine (value_Name.calls t126 t127 _ A13.out).mono ?_); rintro e w18 ⟨rfl, hb⟩; have n0_ := Aside0.mk (below_step (by repeat (first | (with_reducible first | exact HB.out | apply below_alloc | apply pw_below_drewN | apply below_drew1) | exact HB.out)) hb); clear HB; have HB := n0_; clear n0_; (try clear hb); (try clear hb2); (try clear hk); (try clear hi)))
            go_meet
            case rel => exact ⟨_, (true), (by first | rfl | (simp; done) | (simp [*]; done)), H', ⟨by first | omega | exact Nat.le_refl _⟩, ⟨by repeat (first | (with_reducible first | exact HB.out | apply below_alloc | apply pw_below_drewN | apply below_drew1) | exact HB.out)⟩⟩
      case rest =>
        clear HC8
        try clear c1
        try clear p2
        try clear c4
        try clear c5
        try clear c5b0
        try clear c5b1
        try clear c11
        try clear c11b0
        try clear c11b1
        try clear c12
        try clear c12b0
        try clear c13
        try clear c14
        try clear c14b0
        try clear c14b1
        try clear c15
        try clear c15b0
        try clear c17
        obtain ⟨kq, x28_7, rfl, HA, HJ7, HB⟩ := hcut
        cases kq with
        | zero => exact absurd HA.out (by simp [scrimlaw08_ValueNames.j0])
        | succ kj7 =>
          have H := HA.out
          clear HA
          simp only [scrimlaw08_ValueNames.j0] at H
          by_cases c19 : x28_7 = true
          · subst c19
            have H1 : (some false) = some r := by rw [if_pos rfl] at H; exact H
            clear H
            have H := H1
            clear H1
            exact absurd ((Option.some.inj H).trans hrt) (by decide)
          · replace c19 := Bool.eq_false_iff.mpr c19
            subst c19
            have H1 : (if a0 < 1 then (scrimlaw08_ValueNames.j1 kj7 a0 true) else (scrimlaw08_ValueNames.j1 kj7 a0 (decide (a0 ≥ 27)))) = some r := by rw [if_neg (show ¬ (false = true) by decide)] at H; exact H
            clear H
            have H := H1
            clear H1
            have HC20 := Aside0.mk H
            clear H
            go_upto_region 8 with (fail)
            go_cut [34] (fun v34 wc => ∃ (kq : Nat) (x34_19 : Bool), v34 = .bool x34_19 ∧ Aside0 (scrimlaw08_ValueNames.j1 kq a0 x34_19 = some r) ∧ Aside0 (kq ≤ kj7) ∧ Aside0 (Below w.heap.size w wc))
            case first =>
              have H := HC20.out
              clear HC20
              by_cases c21 : a0 < 1
              · rw [if_pos c21] at H
                have c21b0 : decide (a0 < 1) = true := decide_eq_true c21
                clear c21
                (first | rw [c21b0] | (simp only [i64_w, i32_w]; rw [c21b0]) | skip)
                have H' := Aside0.mk H
                clear H
                go_wp2
                go_meet
                case rel => exact ⟨_, (true), (by first | rfl | (simp; done) | (simp [*]; done)), H', ⟨by have := HJ7.out; first | omega | exact Nat.le_refl _⟩, ⟨by repeat (first | (with_reducible first | exact HB.out | apply below_alloc | apply pw_below_drewN | apply below_drew1) | exact HB.out)⟩⟩
              · rw [if_neg c21] at H
                have c21b0 : decide (a0 < 1) = false := decide_eq_false c21
                clear c21
                (first | rw [c21b0] | (simp only [i64_w, i32_w]; rw [c21b0]) | skip)
                have H' := Aside0.mk H
                clear H
                go_wp2
                go_meet
                case rel => exact ⟨_, (decide (a0 ≥ 27)), (by first | rfl | (simp; done) | (simp [*]; done)), H', ⟨by have := HJ7.out; first | omega | exact Nat.le_refl _⟩, ⟨by repeat (first | (with_reducible first | exact HB.out | apply below_alloc | apply pw_below_drewN | apply below_drew1) | exact HB.out)⟩⟩
            case rest =>
              clear HC20
              try clear c1
              try clear c2
              try clear p2
              try clear c4
              try clear c5
              try clear c5b0
              try clear c5b1
              try clear c11
              try clear c11b0
              try clear c11b1
              try clear c12
              try clear c12b0
              try clear c13
              try clear c14
              try clear c14b0
              try clear c14b1
              try clear c15
              try clear c15b0
              try clear c17
              try clear c19
              try clear c21
              try clear c21b0
              try clear p2
              obtain ⟨kq, x34_19, rfl, HA, HJ19, HB⟩ := hcut
              cases kq with
              | zero => exact absurd HA.out (by simp [scrimlaw08_ValueNames.j1])
              | succ kj19 =>
                have H := HA.out
                clear HA
                simp only [scrimlaw08_ValueNames.j1] at H
                by_cases c22 : x34_19 = true
                · subst c22
                  have H1 : ((value_Name.f a0).bind fun t128 => (if t128.toList = ([] : List UInt8) then ((value_First.f a0).bind fun bt129 => (if (bt129.1 == 0 && (bt129.2 == 0)) = true then ((value_Passed.f a0).bind fun t131 => (some (!t131))) else (some false))) else (some false))) = some r := by rw [if_pos rfl] at H; exact H
                  clear H
                  have H := H1
                  clear H1
                  replace H := Option.bind_eq_some_iff.mp H
                  obtain ⟨t128, A230, H⟩ := H
                  replace H : (if t128.toList = ([] : List UInt8) then ((value_First.f a0).bind fun bt129 => (if (bt129.1 == 0 && (bt129.2 == 0)) = true then ((value_Passed.f a0).bind fun t131 => (some (!t131))) else (some false))) else (some false)) = some r := H
                  have A23 := Aside0.mk A230
                  clear A230
                  by_cases c24 : t128.toList = ([] : List UInt8)
                  · rw [if_pos c24] at H
                    have c24b0 : (t128.toList == ([] : List UInt8)) = true := beq_iff_eq.mpr c24
                    have c24b1 : (t128.toList != ([] : List UInt8)) = false := bne_eq_false_iff_eq.mpr c24
                    clear c24
                    replace H := Option.bind_eq_some_iff.mp H
                    obtain ⟨⟨t129, t130⟩, A250, H⟩ := H
                    replace H : (if (t129 == 0 && (t130 == 0)) = true then ((value_Passed.f a0).bind fun t131 => (some (!t131))) else (some false)) = some r := H
                    have A25 := Aside0.mk A250
                    clear A250
                    by_cases c26 : (t129 == 0 && (t130 == 0)) = true
                    · rw [if_pos c26] at H
                      have c26b0 : (t129 == 0 && (t130 == 0)) = true := c26
                      (try (have c26b1 : decide (t129 = 0 && (t130 == 0)) = true := by simpa using c26))
                      (try (have c26b2 : (t129 == 0 && (t130 == 0)) = true := by simpa using c26))
                      clear c26
                      replace H := Option.bind_eq_some_iff.mp H
                      obtain ⟨t131, A270, H⟩ := H
                      replace H : (some (!t131)) = some r := H
                      have A27 := Aside0.mk A270
                      clear A270
                      obtain rfl := Option.some.inj H; clear hrt; try clear H
                      go_wp2_with (first | ((with_reducible refine gate_callee (f := 18) rfl ?_); refine goesL_ (some 36) rfl rfl Tryd.func18 (by kernel_rfl) rfl #[.int .i64 a0] rfl (by (try simp only [List.map_toArray, List.map_cons, List.map_nil]); first | done | rfl | (simp only [List.length_drop, List.length_take]; rfl)) ?_; (with_reducible refine (value_Name.calls a0 t128 _ A23.out).mono ?_); rintro e w28 ⟨rfl, hb⟩; refine ⟨_, rfl, ?_⟩; have n0_ := Aside0.mk (below_step (by repeat (first | (with_reducible first | exact HB.out | apply below_alloc | apply pw_below_drewN | apply below_drew1) | exact HB.out)) hb); clear HB; have HB := n0_; clear n0_; (try clear hb); (try clear hb2); (try clear hk); (try clear hi)) | (go_at_call 19; (with_reducible refine (value_First.calls a0 t129 t130 _ A25.out).mono ?_); rintro e w29 ⟨rfl, hb⟩; have n0_ := Aside0.mk (below_step (by repeat (first | (with_reducible first | exact HB.out | apply below_alloc | apply pw_below_drewN | apply below_drew1) | exact HB.out)) hb); clear HB; have HB := n0_; clear n0_; (try clear hb); (try clear hb2); (try clear hk); (try clear hi)) | (go_at_call 20; (with_reducible refine (value_Passed.calls a0 t131 _ A27.out).mono ?_); rintro e w' ⟨rfl, ⟨nd, rfl⟩⟩))
                      go_ret
                      exact ⟨by first | rfl | (simp [errW_none, errW_some] <;> rfl) | (simp [*, errW_none, errW_some] <;> rfl), by repeat (first | (with_reducible first | exact HB.out | apply below_alloc | apply pw_below_drewN | apply below_drew1) | exact HB.out)⟩
                    · rw [if_neg c26] at H
                      have c26b0 : (t129 == 0 && (t130 == 0)) = false := by simpa using c26
                      (try (have c26b1 : decide (t129 = 0 && (t130 == 0)) = false := by simpa using c26))
                      (try (have c26b2 : (t129 == 0 && (t130 == 0)) = false := by simpa using c26))
                      (try (have c26b3 : ¬ (t129 = 0 && (t130 == 0)) := by simpa using c26))
                      clear c26
                      exact absurd ((Option.some.inj H).trans hrt) (by decide)
                  · rw [if_neg c24] at H
                    have c24b0 : (t128.toList == ([] : List UInt8)) = false := beq_eq_false_iff_ne.mpr c24
                    have c24b1 : (t128.toList != ([] : List UInt8)) = true := bne_iff_ne.mpr c24
                    exact absurd ((Option.some.inj H).trans hrt) (by decide)
                · replace c22 := Bool.eq_false_iff.mpr c22
                  subst c22
                  have H1 : ((value_Name.f a0).bind fun t132 => ((value_Prop.f t132).bind fun t133 => (if t133 = a0 then ((value_First.f a0).bind fun bt134 => ((value_May.f a0 bt134.1 bt134.2).bind fun t136 => (some t136))) else (some false)))) = some r := by rw [if_neg (show ¬ (false = true) by decide)] at H; exact H
                  clear H
                  have H := H1
                  clear H1
                  replace H := Option.bind_eq_some_iff.mp H
                  obtain ⟨t132, A330, H⟩ := H
                  replace H : ((value_Prop.f t132).bind fun t133 => (if t133 = a0 then ((value_First.f a0).bind fun bt134 => ((value_May.f a0 bt134.1 bt134.2).bind fun t136 => (some t136))) else (some false))) = some r := H
                  have A33 := Aside0.mk A330
                  clear A330
                  replace H := Option.bind_eq_some_iff.mp H
                  obtain ⟨t133, A340, H⟩ := H
                  replace H : (if t133 = a0 then ((value_First.f a0).bind fun bt134 => ((value_May.f a0 bt134.1 bt134.2).bind fun t136 => (some t136))) else (some false)) = some r := H
                  have A34 := Aside0.mk A340
                  clear A340
                  by_cases c35 : t133 = a0
                  · rw [if_pos c35] at H
                    have c35b0 : (t133 == a0) = true := beq_iff_eq.mpr c35
                    have c35b1 : (t133 != a0) = false := bne_eq_false_iff_eq.mpr c35
                    clear c35
                    replace H := Option.bind_eq_some_iff.mp H
                    obtain ⟨⟨t134, t135⟩, A360, H⟩ := H
                    replace H : ((value_May.f a0 t134 t135).bind fun t136 => (some t136)) = some r := H
                    have A36 := Aside0.mk A360
                    clear A360
                    replace H := Option.bind_eq_some_iff.mp H
                    obtain ⟨t136, A370, H⟩ := H
                    replace H : (some t136) = some r := H
                    have A37 := Aside0.mk A370
                    clear A370
                    obtain rfl := Option.some.inj H; clear hrt; try clear H
                    go_wp2_with (first | ((with_reducible refine gate_callee (f := 18) rfl ?_); refine goesL_ (some 50) rfl rfl Tryd.func18 (by kernel_rfl) rfl #[.int .i64 a0] rfl (by (try simp only [List.map_toArray, List.map_cons, List.map_nil]); first | done | rfl | (simp only [List.length_drop, List.length_take]; rfl)) ?_; (with_reducible refine (value_Name.calls a0 t132 _ A33.out).mono ?_); rintro e w38 ⟨rfl, hb⟩; refine ⟨_, rfl, ?_⟩; have n0_ := Aside0.mk (below_step (by repeat (first | (with_reducible first | exact HB.out | apply below_alloc | apply pw_below_drewN | apply below_drew1) | exact HB.out)) hb); clear HB; have HB := n0_; clear n0_; (try clear hb); (try clear hb2); (try clear hk); (try clear hi)) | ((with_reducible refine gate_callee (f := 17) rfl ?_); refine goesL_ (some 51) rfl rfl Tryd.func17 (by kernel_rfl) rfl #[.string t132] rfl (by (try simp only [List.map_toArray, List.map_cons, List.map_nil]); first | done | rfl | (simp only [List.length_drop, List.length_take]; rfl)) ?_; (with_reducible refine (value_Prop.calls t132 t133 _ A34.out).mono ?_); rintro e w39 ⟨rfl, hb⟩; refine ⟨_, rfl, ?_⟩; have n0_ := Aside0.mk (below_step (by repeat (first | (with_reducible first | exact HB.out | apply below_alloc | apply pw_below_drewN | apply below_drew1) | exact HB.out)) hb); clear HB; have HB := n0_; clear n0_; (try clear hb); (try clear hb2); (try clear hk); (try clear hi)) | (go_at_call 19; (with_reducible refine (value_First.calls a0 t134 t135 _ A36.out).mono ?_); rintro e w40 ⟨rfl, hb⟩; have n0_ := Aside0.mk (below_step (by repeat (first | (with_reducible first | exact HB.out | apply below_alloc | apply pw_below_drewN | apply below_drew1) | exact HB.out)) hb); clear HB; have HB := n0_; clear n0_; (try clear hb); (try clear hb2); (try clear hk); (try clear hi)) | (go_at_call 16; (with_reducible refine (value_May.calls a0 t134 t135 t136 _ A37.out).mono ?_); rintro e w41 ⟨rfl, hb⟩; have n0_ := Aside0.mk (below_step (by repeat (first | (with_reducible first | exact HB.out | apply below_alloc | apply pw_below_drewN | apply below_drew1) | exact HB.out)) hb); clear HB; have HB := n0_; clear n0_; (try clear hb); (try clear hb2); (try clear hk); (try clear hi)))
                    go_ret
                    exact ⟨by first | rfl | (simp [errW_none, errW_some] <;> rfl) | (simp [*, errW_none, errW_some] <;> rfl), by repeat (first | (with_reducible first | exact HB.out | apply below_alloc | apply pw_below_drewN | apply below_drew1) | exact HB.out)⟩
                  · rw [if_neg c35] at H
                    have c35b0 : (t133 == a0) = false := beq_eq_false_iff_ne.mpr c35
                    have c35b1 : (t133 != a0) = true := bne_iff_ne.mpr c35
                    exact absurd ((Option.some.inj H).trans hrt) (by decide)
  · replace c4 := Bool.eq_false_iff.mpr c4
    subst c4
    have H1 : (some false) = some r := by rw [if_neg (show ¬ (false = true) by decide)] at H; exact H
    clear H
    have H := H1
    clear H1
    exact absurd ((Option.some.inj H).trans hrt) (by decide)

/-- THE ONE PURE STATEMENT of scrimlaw08_ValueNames: yours. -/
def scrimlaw08_ValueNames.Pure : Prop := ∀ (a0 : Int) (a1 : ByteArray), (Lit.int .i64 a0).wf = true → a1.size ≤ 140737488351232 → ∃ k, scrimlaw08_ValueNames.f k a0 a1 = some true

end Go.Proofs.YtmfhhlgjbjbnhaaDoor.HV
