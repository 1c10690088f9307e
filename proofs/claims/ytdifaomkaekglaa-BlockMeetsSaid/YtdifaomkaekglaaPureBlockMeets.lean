/- BlockMeets returns true for every pair of int64 values: the pure half over the printed functions; no condition. -/
import Derived.Test.YtdifaomkaekglaaHB1
namespace Go.Proofs.Ytdifaomkaekglaa.Pure
open Go.RowKit Go.Proofs.Ytdifaomkaekglaa.HB Go.Proofs.YtdifaomkaekglaaW.PrintWords Go.Proofs.YtdifaomkaekglaaW.PrintLast

def meetV (a b : Int) : Int := if 0 ≤ a then (if 0 ≤ b then mx a b else a + b) else (if b < 0 then mn a b else a + b)
theorem addV_in {a b : Int} (ha : -1099511627776 ≤ a) (ha' : a ≤ 1099511627776) (hb : -1099511627776 ≤ b) (hb' : b ≤ 1099511627776) (h : -1099511627776 ≤ a + b) (h' : a + b ≤ 1099511627776) : fixed_Add.f a b = some (a + b, true) := by
  unfold fixed_Add.f addV addB
  rw [clampV_t ha ha', clampV_t hb hb', clampV_t h h', clampB_t ha ha', clampB_t hb hb', clampB_t h h']
  rfl
theorem meet_f {a b : Int} (ha : -1099511627776 ≤ a) (ha' : a ≤ 1099511627776) (hb : -1099511627776 ≤ b) (hb' : b ≤ 1099511627776) (k : Nat) : block_Meet.f (k + 1) a b = some (meetV a b, true) := by
  unfold block_Meet.f meetV
  by_cases h : 0 ≤ a
  · rw [if_pos h, if_pos h]
    by_cases h2 : 0 ≤ b
    · rw [if_pos h2]
      simp only [block_Meet.j0]
      rw [if_pos (by simpa using h2)]
    · rw [if_neg h2]
      simp only [block_Meet.j0]
      rw [if_neg (by simpa using h2), if_neg (by omega), addV_in ha ha' hb hb' (by omega) (by omega)]
      rfl
  · rw [if_neg h, if_neg h]
    simp only [block_Meet.j0]
    rw [if_neg (by simp), if_pos (by omega)]
    by_cases h2 : b < 0
    · rw [if_pos h2, if_pos h2]
    · rw [if_neg h2, if_neg h2, addV_in ha ha' hb hb' (by omega) (by omega)]
      rfl
theorem meetV_comm (a b : Int) : meetV a b = meetV b a := by unfold meetV mx mn; (repeat' split) <;> omega
theorem meetV_zero (a : Int) : meetV a 0 = a := by unfold meetV mx mn; (repeat' split) <;> omega
theorem clampR_f (a : Int) : ∃ v, scrimref01_Clamp.f a = some (v, decide (-1099511627776 ≤ a ∧ a ≤ 1099511627776)) := by
  unfold scrimref01_Clamp.f
  by_cases h : a > 1099511627776
  · rw [if_pos h]; exact ⟨_, by rw [decide_eq_false (by omega)]⟩
  · rw [if_neg h]
    by_cases h2 : a < -1099511627776
    · rw [if_pos h2]; exact ⟨_, by rw [decide_eq_false (by omega)]⟩
    · rw [if_neg h2]; exact ⟨_, by rw [decide_eq_true (by omega)]⟩
theorem j2_true {a b : Int} (ha : -1099511627776 ≤ a) (ha' : a ≤ 1099511627776) (hb : -1099511627776 ≤ b) (hb' : b ≤ 1099511627776) (k : Nat) :
    scrimlaw17_BlockMeets.j2 (k + 1) a b (meetV a b) (decide (a ≥ 0 ∧ b ≥ 0)) = some true := by
  simp only [scrimlaw17_BlockMeets.j2]
  have hw : wrap64 (a + b) = a + b := by unfold wrap64; omega
  by_cases h : a ≥ 0 ∧ b ≥ 0
  · rw [if_pos (by simpa using h)]
    have e : meetV a b = mx a b := by unfold meetV; rw [if_pos h.1, if_pos h.2]
    rw [e]
    have h1 : mx a b ≥ a := by unfold mx; split <;> omega
    have h2 : mx a b ≥ b := by unfold mx; split <;> omega
    rw [if_pos h1, if_pos h2]
    by_cases h3 : mx a b = a
    · rw [if_pos h3]
    · rw [if_neg h3]
      have : mx a b = b := by unfold mx at h3 ⊢; split at h3 <;> (try split) <;> omega
      rw [this]; simp
  · rw [if_neg (by simpa using h), hw]
    by_cases h1 : a < 0
    · rw [if_pos h1]
      by_cases h2 : b < 0
      · rw [if_pos h2]
        have e : meetV a b = mn a b := by unfold meetV; rw [if_neg (by omega), if_pos h2]
        rw [e]
        have h3 : mn a b ≤ a := by unfold mn; split <;> omega
        have h4 : mn a b ≤ b := by unfold mn; split <;> omega
        rw [if_pos h3, if_pos h4]
        by_cases h5 : mn a b = a
        · rw [if_pos h5]
        · rw [if_neg h5]
          have : mn a b = b := by unfold mn at h5 ⊢; split at h5 <;> (try split) <;> omega
          rw [this]; simp
      · rw [if_neg h2]
        have e : meetV a b = a + b := by unfold meetV; rw [if_neg (by omega), if_neg h2]
        rw [e]; simp
    · rw [if_neg h1]
      have e : meetV a b = a + b := by unfold meetV; rw [if_pos (by omega), if_neg (by omega)]
      rw [e]; simp
theorem BlockMeets : scrimlaw17_BlockMeets.Pure := by
  intro a b _ _
  refine ⟨3, ?_⟩
  unfold scrimlaw17_BlockMeets.f scrimlaw17_awake.f
  obtain ⟨va, ea⟩ := clampR_f a
  obtain ⟨vb, eb⟩ := clampR_f b
  rw [ea, eb]
  simp only [Option.bind_some, if_true]
  by_cases ha : -1099511627776 ≤ a ∧ a ≤ 1099511627776
  · rw [if_pos (by simpa using ha)]
    by_cases hb : -1099511627776 ≤ b ∧ b ≤ 1099511627776
    · rw [decide_eq_true hb]
      simp only [scrimlaw17_BlockMeets.j0]
      rw [if_neg (by simp), meet_f ha.1 ha.2 hb.1 hb.2, meet_f hb.1 hb.2 ha.1 ha.2, meet_f ha.1 ha.2 (by omega) (by omega)]
      simp only [Option.bind_some]
      rw [if_pos (meetV_comm a b), if_neg (by simp), if_pos trivial, if_pos (meetV_zero a)]
      simp only [scrimlaw17_BlockMeets.j1, Bool.not_true]
      rw [if_neg (by simp)]
      have h := j2_true ha.1 ha.2 hb.1 hb.2 0
      by_cases h0 : a ≥ 0
      · rw [if_pos h0]
        have e : decide (b ≥ 0) = decide (a ≥ 0 ∧ b ≥ 0) := by simp [h0]
        rw [e]; exact h
      · rw [if_neg h0]
        have e : false = decide (a ≥ 0 ∧ b ≥ 0) := by simp [h0]
        rw [e]; exact h
    · rw [decide_eq_false hb]
      simp [scrimlaw17_BlockMeets.j0]
  · rw [if_neg (by simpa using ha)]
    simp [scrimlaw17_BlockMeets.j0]
end Go.Proofs.Ytdifaomkaekglaa.Pure
