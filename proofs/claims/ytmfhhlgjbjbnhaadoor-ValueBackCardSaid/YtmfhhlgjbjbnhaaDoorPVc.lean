/- Plain law of ValueBack; no program in sight; no condition beside those that each theorem states. -/
import Derived.Test.YtmfhhlgjbjbnhaaDoorPVb
import Derived.Test.YtmfhhlgjbjbnhaaDoorPVa
import Derived.Test.YtmfhhlgjbjbnhaaDoorHV3
set_option linter.unusedVariables false
set_option linter.unusedSimpArgs false
namespace Go.Proofs.YtmfhhlgjbjbnhaaDoor.Pure
open Go Go.Proofs.YtmfhhlgjbjbnhaaDoor.HV Go.Proofs.Val
theorem ValueBack (a0 a1_0 a1_1 : Int) (a2 : ByteArray) : ∃ k, scrimlaw08_ValueBack.f k a0 a1_0 a1_1 a2 = some true := by
  refine ⟨1, ?_⟩
  unfold scrimlaw08_ValueBack.f
  rw [awake, Option.bind_some, if_pos rfl]
  by_cases hs : (a2.size : Int) > 200
  · rw [if_pos hs]
  rw [if_neg hs]
  have tail : scrimlaw08_ValueBack.j0 1 a0 a2 false = some true := by
    simp only [scrimlaw08_ValueBack.j0, Bool.false_eq_true, if_false]
    unfold value_Read.f value_Print.f value_May.f
    rw [if_pos (by omega), Option.bind_some]
    simp only [Option.bind_some]
    by_cases h : (readV a0 a2).2 = true
    · have hm := read_yes h
      have hb := back_read a0 _ _ hm
      rw [if_pos h, if_pos (print_size _ _ _), Option.bind_some]
      simp only [Option.bind_some]
      rw [if_pos hm, hb]
      simp
    · have hn := read_no (Bool.eq_false_iff.2 h)
      rw [if_neg h, hn]
      rfl
  unfold value_Print.f value_Read.f value_May.f
  rw [Option.bind_some, if_pos (print_size _ _ _)]
  simp only [Option.bind_some]
  cases hm : mayV (cl a0) a1_0 a1_1 with
  | true =>
    have hb := back_read a0 a1_0 a1_1 hm
    rw [hb]
    simp only [bne_self_eq_false, Bool.false_eq_true, if_false, if_true, BEq.rfl, Bool.not_true, Bool.or_self]
    exact tail
  | false =>
    obtain ⟨h1, h2⟩ := back_not a0 a1_0 a1_1 hm
    rw [h1, h2]
    simp only [bne_self_eq_false, Bool.false_eq_true, if_false]
    rw [Lib.toList_data]
    exact tail
end Go.Proofs.YtmfhhlgjbjbnhaaDoor.Pure
