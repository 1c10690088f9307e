/- scrimlaw17.BlockFills: what its answer hangs on, in plain words (no program in sight); no condition beside those that each theorem states. -/
import Derived.Test.YtmfhhlgjbjbnhaaDoorFlA
set_option linter.unusedVariables false
set_option linter.unusedSimpArgs false
namespace Go.Proofs
open Go.RowKit
theorem sumV_across_bd (f : Nat → Int × Int) : -1099511627776 ≤ sumV (acrossL f) ∧ sumV (acrossL f) ≤ 1099511627776 := by
  unfold sumV acrossL
  simp only [sumF]
  exact clampV_bd _
theorem addV_t {a b : Int} (h : addB a b = true) : addV a b = a + b ∧ -1099511627776 ≤ a ∧ a ≤ 1099511627776 := by
  unfold addB at h
  simp only [Bool.and_eq_true, clampB_iff] at h
  unfold addV
  rw [clampV_t h.1.1.1 h.1.1.2, clampV_t h.1.2.1 h.1.2.2, clampV_t h.2.1 h.2.2]
  exact ⟨rfl, h.1.2⟩
theorem subV_t {a b : Int} (h : subB a b = true) : subV a b = a - b := by
  unfold subB at h
  simp only [Bool.and_eq_true, clampB_iff] at h
  unfold subV
  rw [clampV_t h.1.1.1 h.1.1.2, clampV_t h.1.2.1 h.1.2.2, clampV_t h.2.1 h.2.2]
theorem fills_auto (f : Nat → Int × Int) (room : Int) (h : (f 2).1 = 1) :
    0 ≤ widthV f room ∧ widthV f room ≤ 1099511627776 ∧ (sumB (acrossL f) = true → widthB f room = true → sumV (acrossL f) ≤ room → widthV f room + sumV (acrossL f) = room) := by
  have hs := subV_bd room (sumV (acrossL f))
  have e : widthV f room = max (subV room (sumV (acrossL f))) 0 := by unfold widthV; rw [if_neg (by omega), if_neg (by omega)]
  refine ⟨by omega, by omega, fun h1 h2 h3 => ?_⟩
  unfold widthB at h2
  rw [if_neg (by omega), if_neg (by omega), h1, Bool.true_and] at h2
  have := subV_t h2
  omega
theorem fills_wide (f : Nat → Int × Int) (room : Int) (hm : Val.mayV 2 (f 2).1 (f 2).2 = true) : -1099511627776 ≤ widthV f room ∧ widthV f room ≤ 1099511627776 := by
  have hs := subV_bd room (sumV (acrossL f))
  unfold widthV
  split
  · rename_i h
    unfold Val.mayV at hm
    rw [if_neg (by omega), if_pos h] at hm
    simp only [Bool.and_eq_true, decide_eq_true_eq] at hm
    have : -63999999999 ≤ Val.lowV 2 := by unfold Val.lowV; split <;> omega
    omega
  · split
    · unfold partV
      split
      · exact clampV_bd _
      · omega
    · omega
theorem fills_not (f : Nat → Int × Int) (room w : Int) (h : (f 2).1 ≠ 1) (hg : shiftB f room w = true) :
    ((f 7).1 ≠ 1 → shiftV f room w = mgS f 3) ∧ ((f 7).1 = 1 → (room - w - sumV (acrossL f) ≤ 0 → shiftV f room w = 0) ∧ (0 < room - w - sumV (acrossL f) → (f 5).1 = 1 → shiftV f room w = (room - w - sumV (acrossL f)) / 2) ∧ (0 < room - w - sumV (acrossL f) → (f 5).1 ≠ 1 → shiftV f room w = room - w - sumV (acrossL f))) := by
  refine ⟨fun h7 => ?_, fun h7 => ?_⟩
  · unfold shiftV; rw [if_pos (.inr h7)]
  · have hn : ¬ ((f 2).1 = 1 ∨ (f 7).1 ≠ 1) := by omega
    unfold shiftB at hg
    rw [if_neg hn] at hg
    simp only [Bool.and_eq_true] at hg
    obtain ⟨⟨h1, h2⟩, h3⟩ := hg
    have e2 := (addV_t h2).1
    have e3 := subV_t h3
    rw [e2] at e3
    unfold shiftV
    rw [if_neg hn, e2, e3]
    refine ⟨fun hr => ?_, fun hr h5 => ?_, fun hr h5 => ?_⟩
    · split <;> omega
    · rw [if_pos h5]; omega
    · rw [if_neg h5]; omega
end Go.Proofs
