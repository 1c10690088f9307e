/- value.most: contracts proved by walking the text of most, number and digits at the one text that most hands over; no condition beside those that each theorem states. -/
import Derived.Test.YtmfhhlgjbjbnhaaGreatDoorSh
import Derived.Test.YtmfhhlgjbjbnhaaGreatDoorShX
import Derived.Test.YtmfhhlgjbjbnhaaGreatDoorSrtB
import Derived.Shelf.Strings.SlTrimAscii
import Derived.Outline
import Derived.Test.YtmfhhlgjbjbnhaaGreatDoorWWords
set_option linter.unusedVariables false
set_option linter.unusedSimpArgs false
namespace Go.Proofs.Val
open Go.RowKit Go.Lib Go.Proofs.YtmfhhlgjbjbnhaaGreatDoorW.PrintWords
theorem below_of_row {w W : World} {B : Nat} (h : Below B w W) {i : Nat} {o : Obj} (hi : w.heap[i]? = some o) (hb : i < B) : W.heap[i]? = some o := (h.block i hb).trans hi
theorem ascii_all {l : List UInt8} (h : l.all (fun b => decide (b.toNat < 128)) = true) : ∀ (j : Nat) (b : UInt8), l[j]? = some b → b.toNat < 128 := fun j b hb => of_decide_eq_true (List.all_eq_true.1 h b (List.mem_of_getElem? hb))
def digW : ByteArray := ⟨#[48, 49, 50, 51, 52, 53, 54, 55, 56, 57]⟩
theorem trim_dig (s : ByteArray) (w : World) (hs : s.size < 4294967281) :
    Calls Tryz.prog 39 #[.string s, .string ⟨#[48, 49, 50, 51, 52, 53, 54, 55, 56, 57]⟩] w fun e w' => e = .returned (.string ⟨(Lib.trimS s.data.toList [48, 49, 50, 51, 52, 53, 54, 55, 56, 57]).toArray⟩) ∧ Below w.heap.size w w' :=
  Any.strings_Trim_laid Tryz.lays160 (by kernel_rfl) s ⟨#[48, 49, 50, 51, 52, 53, 54, 55, 56, 57]⟩ w (by omega) (by decide) (ascii_all (by decide))
set_option maxHeartbeats 1000000 in
theorem digits9 (w : World) : Calls Tryz.prog 63 #[.string ⟨#[57, 57, 57, 57, 57, 57, 57, 57, 57]⟩, .int .i64 9] w fun e w' => e = .returned (.bool true) ∧ Below w.heap.size w w' := by
  have hT := fun w => trim_dig ⟨#[57, 57, 57, 57, 57, 57, 57, 57, 57]⟩ w (by decide)
  rw [show Lib.trimS (⟨#[57, 57, 57, 57, 57, 57, 57, 57, 57]⟩ : ByteArray).data.toList [48, 49, 50, 51, 52, 53, 54, 55, 56, 57] = [] by decide] at hT
  go_enter Tryz.func63, Tryz.ntmps63
  go_wp2_with (first | (go_at_call 39; refine (hT _).mono ?_; rintro e w' ⟨rfl, hB⟩))
  go_ret
  exact ⟨rfl, hB⟩
set_option maxHeartbeats 1000000 in
theorem digits6 (w : World) : Calls Tryz.prog 63 #[.string ⟨#[57, 57, 57, 57, 57, 57]⟩, .int .i64 6] w fun e w' => e = .returned (.bool true) ∧ Below w.heap.size w w' := by
  have hT := fun w => trim_dig ⟨#[57, 57, 57, 57, 57, 57]⟩ w (by decide)
  rw [show Lib.trimS (⟨#[57, 57, 57, 57, 57, 57]⟩ : ByteArray).data.toList [48, 49, 50, 51, 52, 53, 54, 55, 56, 57] = [] by decide] at hT
  go_enter Tryz.func63, Tryz.ntmps63
  go_wp2_with (first | (go_at_call 39; refine (hT _).mono ?_; rintro e w' ⟨rfl, hB⟩))
  go_ret
  exact ⟨rfl, hB⟩
set_option maxHeartbeats 2000000 in
theorem numberM (w : World) : Calls Tryz.prog 45 #[.string ⟨#[57, 57, 57, 57, 57, 57, 57, 57, 57, 46, 57, 57, 57, 57, 57, 57]⟩] w fun e w' => e = .returned (.tuple #[.int .i64 63999999999, .bool true]) ∧ Below w.heap.size w w' := by
  have hP := fun w => Tryz.strings_CutPrefix ⟨#[57, 57, 57, 57, 57, 57, 57, 57, 57, 46, 57, 57, 57, 57, 57, 57]⟩ ⟨#[45]⟩ w
  rw [show Lib.trimPrefix (⟨#[57, 57, 57, 57, 57, 57, 57, 57, 57, 46, 57, 57, 57, 57, 57, 57]⟩ : ByteArray).data.toList (⟨#[45]⟩ : ByteArray).data.toList = [57, 57, 57, 57, 57, 57, 57, 57, 57, 46, 57, 57, 57, 57, 57, 57] by decide, show Lib.hasPrefix (⟨#[57, 57, 57, 57, 57, 57, 57, 57, 57, 46, 57, 57, 57, 57, 57, 57]⟩ : ByteArray).data.toList (⟨#[45]⟩ : ByteArray).data.toList = false by decide] at hP
  have hC := fun w => ShX.xCut_one Tryz.lays145 ⟨#[57, 57, 57, 57, 57, 57, 57, 57, 57, 46, 57, 57, 57, 57, 57, 57]⟩ 46 w (by decide)
  rw [show Lib.cut (⟨#[57, 57, 57, 57, 57, 57, 57, 57, 57, 46, 57, 57, 57, 57, 57, 57]⟩ : ByteArray).data.toList [46] = ([57, 57, 57, 57, 57, 57, 57, 57, 57], [57, 57, 57, 57, 57, 57], true) by decide] at hC
  have hN := fun w => Tryz.strconv_ParseInt_10_at64_ok ⟨#[57, 57, 57, 57, 57, 57, 57, 57, 57]⟩ (by decide) 999999999 (by decide) w
  have hM := fun w => Tryz.strconv_ParseInt_10_at64_ok ⟨#[57, 57, 57, 57, 57, 57]⟩ (by decide) 999999 (by decide) w
  have e6 : ((⟨#[57, 57, 57, 57, 57, 57]⟩ : ByteArray) ++ (⟨#[48, 48, 48, 48, 48, 48]⟩ : ByteArray)).extract 0 6 = ⟨#[57, 57, 57, 57, 57, 57]⟩ := by decide
  rw [← e6] at hM
  have hb : ∀ {W W' : World}, (W' = W ∨ ∃ t, W' = Lib.bytesWorld W 5 t) → Below W.heap.size W W' := by
    rintro W W' (rfl | ⟨t, rfl⟩)
    · exact Below.refl _ _
    · exact Lib.bytesWorld_below _ _ _
  go_enter Tryz.func45, Tryz.ntmps45
  go_wp2_with (first | (go_at_call 50; refine (hP _).mono ?_; rintro e w' ⟨rfl, rfl⟩) | (go_at_call 62; refine (hC _).mono ?_; rintro e w' ⟨rfl, nd, rfl⟩) | (go_at_call 63; first | (with_reducible refine (digits9 _).mono ?_; rintro e w1 ⟨rfl, hB1⟩) | (with_reducible refine (digits6 _).mono ?_; rintro e w2 ⟨rfl, hB2⟩)) | (go_at_call 51; first | (with_reducible refine (hN _).mono ?_; rintro e w3 ⟨rfl, hB3⟩) | (refine (hM _).mono ?_; rintro e w4 ⟨rfl, hB4⟩)))
  go_ret2
  have q0 : Below w'.heap.size w' (w'.drewN nd) := pw_below_drewN (Below.refl _ _) nd
  have q1 := below_then q0 q0.size hB1
  have q2 := below_then q1 q1.size hB2
  have q3 := below_then q2 q2.size (hb hB3)
  exact ⟨rfl, below_then q3 q3.size (hb hB4)⟩
set_option maxHeartbeats 1000000 in
theorem most_any (w : World) : Calls Tryz.prog 29 #[] w fun e w' => e = .returned (.int .i64 63999999999) ∧ Below w.heap.size w w' := by
  go_enter Tryz.func29, Tryz.ntmps29
  go_wp2_with (first | (go_at_call 45; refine (numberM _).mono ?_; rintro e w' ⟨rfl, hB⟩))
  go_ret
  exact ⟨rfl, hB⟩
end Go.Proofs.Val
