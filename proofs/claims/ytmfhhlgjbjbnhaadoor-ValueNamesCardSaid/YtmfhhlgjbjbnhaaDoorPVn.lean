/- Plain law of ValueNames; no program in sight; no condition beside those that each theorem states. -/
import Derived.Test.YtmfhhlgjbjbnhaaDoorPVa
set_option linter.unusedVariables false
set_option linter.unusedSimpArgs false
namespace Go.Proofs.YtmfhhlgjbjbnhaaDoor.Pure
open Go Go.Proofs.YtmfhhlgjbjbnhaaDoor.HV Go.Proofs.Val
/-- what Lib.idxFromS finds stands there, if it finds something -/
theorem idxFrom_at (x : ByteArray) : ∀ (zs : List ByteArray) (i k : Nat), Lib.idxFromS zs x i = (k : Int) → i ≤ k ∧ zs[k - i]? = some x
  | [], i, k, h => by simp [Lib.idxFromS] at h
  | z :: zs, i, k, h => by
    by_cases e : z = x
    · simp only [Lib.idxFromS, if_pos e] at h
      have hk : k = i := by omega
      subst hk
      exact ⟨Nat.le_refl _, by rw [Nat.sub_self]; exact congrArg some e⟩
    · simp only [Lib.idxFromS, if_neg e] at h
      obtain ⟨h1, h2⟩ := idxFrom_at x zs (i + 1) k h
      refine ⟨by omega, ?_⟩
      obtain ⟨d, hd⟩ : ∃ d, k - i = d + 1 := ⟨k - i - 1, by omega⟩
      rw [hd]
      rw [show k - (i + 1) = d by omega] at h2
      exact h2
theorem propV_bd (s : ByteArray) : 0 ≤ propV s ∧ propV s < 27 := by
  have := propI_bd s
  unfold propV
  omega
theorem name_of_prop (s : ByteArray) (h : propV s ≠ 0) : nameP (propV s) = s := by
  have hb := propI_bd s
  obtain ⟨k, hk⟩ : ∃ k : Nat, propI s = (k : Int) := ⟨(propI s).toNat, by unfold propV at h; omega⟩
  have hp : propV s = ((k + 1 : Nat) : Int) := by unfold propV; omega
  obtain ⟨_, h2⟩ := idxFrom_at s namesL 0 k hk
  rw [hp]
  unfold nameP
  rw [cl_in (by omega) (by omega), Int.toNat_natCast]
  have h3 := names_at k (by omega)
  rw [← h3]
  simp [List.getD, h2]
  rw [show k = k - 0 by omega, h2]; rfl
theorem fin_props : ∀ q : Fin 26, propV (rec0 (q.val + 1)).name = ((q.val + 1 : Nat) : Int) ∧ mayV (q.val + 1) (rec0 (q.val + 1)).k (rec0 (q.val + 1)).n = true := by decide +kernel
theorem ValueNames (a0 : Int) (a1 : ByteArray) : ∃ k, scrimlaw08_ValueNames.f k a0 a1 = some true := by
  have tail : ∀ k b, (b = decide (a0 < 1 ∨ 27 ≤ a0)) → scrimlaw08_ValueNames.j1 (k + 1) a0 b = some true := by
    intro k b hb
    by_cases h : a0 < 1 ∨ 27 ≤ a0
    · rw [decide_eq_true h] at hb
      subst hb
      have hc : cl a0 = 0 := cl_out (by omega)
      have e1 : nameP a0 = ⟨#[]⟩ := by unfold nameP; rw [hc]; rfl
      have e2 : firstP a0 = (0, 0) := by unfold firstP; rw [hc]; rfl
      have e3 : value_Passed.f a0 = some false := by
        unfold value_Passed.f
        rw [if_neg (by omega), if_neg (by omega)]
        congr 1
        exact beq_eq_false_iff_ne.2 (by omega)
      simp only [scrimlaw08_ValueNames.j1, if_true, value_Name.f, value_First.f, Option.bind_some, e1, e2, e3]
      rw [if_pos (by rw [Lib.toList_data])]
      rfl
    · rw [decide_eq_false h] at hb
      subst hb
      obtain ⟨q, hq, rfl⟩ : ∃ q : Nat, q < 26 ∧ a0 = ((q + 1 : Nat) : Int) := ⟨a0.toNat - 1, by omega, by omega⟩
      have hc : cl ((q + 1 : Nat) : Int) = q + 1 := by rw [cl_in (by omega) (by omega), Int.toNat_natCast]
      obtain ⟨f1, f2⟩ := fin_props ⟨q, hq⟩
      have e1 : nameP ((q + 1 : Nat) : Int) = (rec0 (q + 1)).name := by unfold nameP; rw [hc]
      have e2 : firstP ((q + 1 : Nat) : Int) = ((rec0 (q + 1)).k, (rec0 (q + 1)).n) := by unfold firstP; rw [hc]
      simp only [scrimlaw08_ValueNames.j1, Bool.false_eq_true, if_false, value_Name.f, value_First.f, value_Prop.f, value_May.f, Option.bind_some, e1, e2, hc, f1, f2, if_true]
  have head : ∀ k, scrimlaw08_ValueNames.j0 (k + 2) a0 false = some true := by
    intro k
    have ht := tail k
    simp only [scrimlaw08_ValueNames.j0, Bool.false_eq_true, if_false]
    by_cases h : a0 < 1
    · rw [if_pos h]; exact ht true (by rw [decide_eq_true (by omega)])
    · rw [if_neg h]
      refine ht _ ?_
      by_cases h2 : 27 ≤ a0
      · rw [decide_eq_true (show a0 ≥ 27 from h2), decide_eq_true (by omega)]
      · rw [decide_eq_false (show ¬ a0 ≥ 27 from h2), decide_eq_false (by omega)]
  refine ⟨3, ?_⟩
  unfold scrimlaw08_ValueNames.f
  rw [awake, Option.bind_some, if_pos rfl]
  by_cases hs : (a1.size : Int) > 200
  · rw [if_pos hs]
  rw [if_neg hs]
  have hb := propV_bd a1
  have hn := name_of_prop a1
  show (value_Prop.f a1).bind _ = _
  simp only [value_Prop.f, Option.bind_some]
  generalize propV a1 = p at hb hn
  by_cases h0 : p = 0
  · rw [if_pos h0, if_neg (by omega), decide_eq_false (by omega)]
    exact head 1
  · rw [if_neg h0]
    simp only [value_Name.f, Option.bind_some, hn h0]
    rw [if_pos trivial, if_neg (by omega), decide_eq_false (by omega)]
    exact head 1
end Go.Proofs.YtmfhhlgjbjbnhaaDoor.Pure
