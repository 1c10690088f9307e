/- value.May of any number, scan.Trim and the value that any text is of a sort: contracts proved by walking their text; no condition beside those that each theorem states. -/
import Derived.Test.YtmfhhlgjbjbnhaaDoorVaE
import Derived.Test.YtmfhhlgjbjbnhaaDoorVaC
import Derived.Test.YtmfhhlgjbjbnhaaDoorScA
set_option linter.unusedVariables false
set_option linter.unusedSimpArgs false
namespace Go.Proofs.Scn
open Go.RowKit Go.Lib Go.Proofs.YtmfhhlgjbjbnhaaDoorW.PrintWords
def trimV (s : ByteArray) : ByteArray := ⟨(Lib.trimS s.data.toList [32, 9, 10, 13]).toArray⟩
theorem trim_any (s : ByteArray) (w : World) (hs : s.size < 4294967281) :
    Calls Tryd.prog 35 #[.string s] w fun e w' => e = .returned (.string (trimV s)) ∧ Below w.heap.size w w' := by
  have hcon : ∀ w, Calls Tryd.prog 51 #[.string s, .string ⟨#[32, 9, 10, 13]⟩] w fun e w' => e = .returned (.string (trimV s)) ∧ Below w.heap.size w w' := fun w => Any.strings_Trim_laid Tryd.lays160 (by kernel_rfl) s ⟨#[32, 9, 10, 13]⟩ w (by omega) (by decide) (Val.ascii_all (by decide))
  generalize trimV s = r at hcon ⊢
  go_enter Tryd.func35, Tryd.ntmps35
  go_wp2_with (go_at_call 51; refine (hcon _).mono ?_; rintro e w' ⟨rfl, hB⟩)
  go_ret
  exact ⟨rfl, hB⟩
end Go.Proofs.Scn
namespace Go.Proofs.Val
open Go.RowKit Go.Proofs Go.Proofs.YtmfhhlgjbjbnhaaDoorW.PrintWords
theorem mayV_zero (k n : Int) : mayV 0 k n = false := by
  have e1 : (rec0 0).auto = false := rfl
  have e2 : (rec0 0).length = false := rfl
  have e3 : (rec0 0).part = false := rfl
  have e4 : (rec0 0).color = false := rfl
  have e5 : (rec0 0).number = false := rfl
  have e6 : (rec0 0).wn = 0 := rfl
  unfold mayV
  rw [e1, e2, e3, e4, e5, e6]
  split
  · rfl
  split
  · rfl
  split
  · rfl
  split
  · rfl
  split
  · by_cases h : 0 ≤ n
    · rw [decide_eq_true h, decide_eq_false (by omega)]; rfl
    · rw [decide_eq_false h]; rfl
  split <;> rfl
theorem recA0 (wa : Option Addr) : recV (recA 0 wa) = .agg #[.string ⟨#[]⟩, .bool false, .bool false, .bool false, .bool false, .bool false, .bool false, .slice wa 0 0, .int .i64 0, .int .i64 0] := rfl
set_option maxHeartbeats 2000000 in
theorem mayOut (p : Int) (hp : ¬ (1 ≤ p ∧ p ≤ 26)) (k n : Int) (w : World) :
    Calls Tryd.prog 16 #[.int .i64 p, .agg #[.int .i64 k, .int .i64 n]] w fun e w' => e = .returned (.bool false) ∧ Below w.heap.size w w' := by
  have hO := fun w => ofP p w
  simp only [cl_out hp, decide_eq_false hp, recA0] at hO
  clear hp
  go_enter Tryd.func16, Tryd.ntmps16
  go_upto_region 3 with (first | (go_at_call 31; refine (hO _).mono ?_; rintro e w1 ⟨wa, rfl, hS, hB⟩; clear hS; obtain ⟨hc, hf⟩ := bcell hB; have hz : w.heap.size < w1.heap.size := by (have hs := hB.size; rw [alloc_size] at hs; omega)))
  have p1 : Below w.heap.size w w1 := ((Below.refl _ _).alloc (Nat.le_refl _) _).trans (hB.mono (by rw [alloc_size]; omega))
  have P1 := Lib.hid (below_alloc p1 (.cells #[.string ⟨#[]⟩, .bool false, .bool false, .bool false, .bool false, .bool false, .bool false, .slice wa 0 0, .int .i64 0, .int .i64 0] 63))
  clear hB p1 hO
  go_upto_region 5 with fail
  by_cases k1 : k = 1
  · subst k1
    go_wp2
    go_ret
    exact ⟨rfl, P1.out⟩
  have f1 : (k == 1) = false := by simp [k1]
  by_cases k2 : k = 2
  · subst k2
    go_wp2; go_quiet (fail); go_wp2
    go_ret
    exact ⟨rfl, pw_below_drewN P1.out _⟩
  have f2 : (k == 2) = false := by simp [k2]
  by_cases k3 : k = 3
  · subst k3
    go_wp2; go_quiet (fail); go_wp2
    go_ret
    exact ⟨rfl, pw_below_drewN P1.out _⟩
  have f3 : (k == 3) = false := by simp [k3]
  by_cases k4 : k = 4
  · subst k4
    go_wp2
    go_ret
    exact ⟨rfl, P1.out⟩
  have f4 : (k == 4) = false := by simp [k4]
  by_cases k5 : k = 5
  · subst k5
    by_cases ha : (0 : Int) ≤ n
    · have ga : decide ((0 : Int) ≤ n) = true := decide_eq_true ha
      have gb : decide (n < (0 : Int)) = false := decide_eq_false (by omega)
      go_wp2
      go_ret
      exact ⟨rfl, P1.out⟩
    · have ga : decide ((0 : Int) ≤ n) = false := decide_eq_false ha
      go_wp2
      go_ret
      exact ⟨rfl, P1.out⟩
  have f5 : (k == 5) = false := by simp [k5]
  by_cases k6 : k = 6
  · subst k6
    go_wp2; go_quiet (fail); go_wp2
    go_ret
    exact ⟨rfl, pw_below_drewN P1.out _⟩
  have f6 : (k == 6) = false := by simp [k6]
  go_wp2
  go_ret
  exact ⟨rfl, P1.out⟩
theorem mayP (p k n : Int) (w : World) :
    Calls Tryd.prog 16 #[.int .i64 p, .agg #[.int .i64 k, .int .i64 n]] w fun e w' => e = .returned (.bool (mayV (cl p) k n)) ∧ Below w.heap.size w w' := by
  by_cases hp : 1 ≤ p ∧ p ≤ 26
  · obtain ⟨q, rfl⟩ : ∃ q : Nat, p = (q : Int) := ⟨p.toNat, by omega⟩
    rw [cl_in hp.1 hp.2, Int.toNat_natCast]
    exact mayC q (by omega) (by omega) k n w
  · rw [cl_out hp, mayV_zero]
    exact mayOut p hp k n w
end Go.Proofs.Val
