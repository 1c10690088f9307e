/- The plain half of ScanStays. -/
import Derived.Test.YtdifaomkaekglaaDoorHS5
import Derived.Test.YtdifaomkaekglaaDoorScP
set_option linter.unusedVariables false
set_option linter.unusedSimpArgs false
namespace Go.Proofs.YtdifaomkaekglaaDoor.Pure
open Go.RowKit Go.Proofs.YtdifaomkaekglaaDoor.HS Go.Proofs.YtdifaomkaekglaaDoorW.PrintWords Go.Proofs.YtdifaomkaekglaaDoorW.PrintLast Go.Proofs.Scn
theorem awake : Ev (fun k => scrimlaw07_awake.f k) true := Ev.of (fun k => scrimlaw07_awake.mono k) (k := 60) (by kernel_rfl)
theorem ba_len (s : ByteArray) : s.data.toList.length = s.size := by simp
theorem trimV_trimV (s : ByteArray) : trimV (trimV s) = trimV s := ba_ext (by rw [trimV_data, trimV_data, trim_trim])
theorem stripV_stripV (s : ByteArray) : stripV (stripV s) = stripV s := ba_ext (by rw [stripV_data, stripV_data, scn_scn])
theorem trimV_size (s : ByteArray) : (trimV s).size ≤ s.size := by
  have := trim_len s.data.toList
  rw [← trimV_data, ba_len, ba_len] at this
  exact this
theorem stripV_size (s : ByteArray) : (stripV s).size ≤ s.size := by
  have := scn_len s.size false s.data.toList (by rw [ba_len]; exact Nat.le_refl _)
  rw [← stripV_data, ba_len, ba_len] at this
  exact this
theorem lowV_size (s : ByteArray) : (lowV s).size = s.size := by
  rw [← ba_len, lowV_data, List.length_map, ba_len]
theorem ScanStays : scrimlaw07_ScanStays.Pure := by
  intro a0 _
  refine Ev.rounds (g := fun k => scrimlaw07_ScanStays.f k a0) ?_
  unfold scrimlaw07_ScanStays.f
  refine Ev.bind awake ?_
  simp only [if_true]
  by_cases hs : (a0.size : Int) > 1000
  · simp only [if_pos hs]; exact Ev.now _
  · simp only [if_neg hs]
    have h1 : a0.size < 4294967281 := by omega
    have h2 := stripV_size a0
    have h3 := trimV_size a0
    have h4 := lowV_size a0
    have h5 : (stripV a0).size < 4294967281 := by omega
    have h6 : (trimV a0).size < 4294967281 := by omega
    have h7 : (lowV a0).size < 4294967281 := by omega
    have h8 : ((stripV a0).size : Int) ≤ (a0.size : Int) := by omega
    have h9 : ((trimV a0).size : Int) ≤ (a0.size : Int) := by omega
    simp only [scan_Strip.f, scan_Trim.f, scan_Lower.f, if_pos h1, Option.bind_some, if_pos h5, if_pos h6, if_pos h8, if_pos h9, stripV_stripV, trimV_trimV, lowV_lowV, if_true, h4, beq_self_eq_true]
    exact Ev.now _
end Go.Proofs.YtdifaomkaekglaaDoor.Pure
