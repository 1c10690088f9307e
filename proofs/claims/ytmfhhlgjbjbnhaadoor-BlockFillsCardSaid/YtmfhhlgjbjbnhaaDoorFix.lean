/- Contracts of functions of the given program, proved by walking their text (module Fix); no condition beside those that each theorem states. -/
import Derived.Test.YtmfhhlgjbjbnhaaDoorProg
import Derived.WalkKit
import Derived.WalkLawsBesides
import Derived.WalkSpells
import Derived.Below
import Derived.Deep.Draws
import Derived.Deep.AppendLies
import Derived.Maps.AppendAt
import Derived.OwnWalk
import Derived.Laws.BytesArg
import Derived.Laws.MakeOwn
import Derived.Laws.OwnMore
import Derived.Deep.OwnRows
import Derived.Laws.Slices
import Derived.KernelRfl
import Derived.RowKit3
import Derived.Deep.LoopGhost
import Derived.Deep.QuietTactic
import Derived.BigQuiet
import Derived.WideLaws
import Derived.Deep.DeepCutAuto
import Derived.Deep.CutBlock
import Derived.Deep.RegionHeld3
import Derived.Laws.Rows
import Derived.Laws.Tables
import Derived.RowKit
import Derived.Outline
import Derived.Lib.Hide
import Derived.Test.YtmfhhlgjbjbnhaaDoorWWords
set_option linter.unusedVariables false
set_option linter.unusedSimpArgs false
namespace Go.Proofs
open Go.RowKit Go.Proofs.YtmfhhlgjbjbnhaaDoorW.PrintWords
def clampV (n : Int) : Int := if n > 1099511627776 then 1099511627776 else if n < -1099511627776 then -1099511627776 else n
def clampB (n : Int) : Bool := decide (-1099511627776 ≤ n) && decide (n ≤ 1099511627776)
theorem clampV_bd (n : Int) : -1099511627776 ≤ clampV n ∧ clampV n ≤ 1099511627776 := by unfold clampV; split <;> (try split) <;> omega
theorem clampB_iff (n : Int) : clampB n = true ↔ -1099511627776 ≤ n ∧ n ≤ 1099511627776 := by simp [clampB]
theorem clampB_f {n : Int} (h : n < -1099511627776 ∨ 1099511627776 < n) : clampB n = false := by rw [Bool.eq_false_iff, Ne, clampB_iff]; omega
theorem clampB_t {n : Int} (h : -1099511627776 ≤ n) (h' : n ≤ 1099511627776) : clampB n = true := (clampB_iff n).2 ⟨h, h'⟩
theorem clampV_t {n : Int} (h : -1099511627776 ≤ n) (h' : n ≤ 1099511627776) : clampV n = n := by unfold clampV; rw [if_neg (by omega), if_neg (by omega)]
theorem clampV_hi {n : Int} (h : 1099511627776 < n) : clampV n = 1099511627776 := by unfold clampV; rw [if_pos h]
theorem clampV_lo {n : Int} (h : n < -1099511627776) : clampV n = -1099511627776 := by unfold clampV; rw [if_neg (by omega), if_pos h]
theorem ret_ib {a c : Int} {b d : Bool} (h : a = c) (h' : b = d) : Ending.returned (.tuple #[.int .i64 a, .bool b]) = .returned (.tuple #[.int .i64 c, .bool d]) := by rw [h, h']
theorem clampP (n : Int) (w : World) :
    Calls Tryd.prog 41 #[.int .i64 n] w fun e w' => e = .returned (.tuple #[.int .i64 (clampV n), .bool (clampB n)]) ∧ w = w' := by
  by_cases h1 : 1099511627776 < n
  · go_enter Tryd.func41, Tryd.ntmps41
    go_wp2
    go_ret2
    exact ⟨ret_ib (clampV_hi h1).symm (by rw [clampB_f (.inr h1)]; simp; omega), rfl⟩
  · by_cases h2 : n < -1099511627776
    · go_enter Tryd.func41, Tryd.ntmps41
      go_wp2
      go_ret2
      exact ⟨ret_ib (clampV_lo h2).symm (by rw [clampB_f (.inl h2)]; simp; omega), rfl⟩
    · go_enter Tryd.func41, Tryd.ntmps41
      go_wp2
      go_ret2
      exact ⟨ret_ib (clampV_t (by omega) (by omega)).symm (by rw [clampB_t (by omega) (by omega)]), rfl⟩
def addV (a b : Int) : Int := clampV (clampV a + clampV b)
def addB (a b : Int) : Bool := clampB (clampV a + clampV b) && clampB a && clampB b
def subV (a b : Int) : Int := clampV (clampV a - clampV b)
def subB (a b : Int) : Bool := clampB (clampV a - clampV b) && clampB a && clampB b
set_option maxHeartbeats 1000000 in
theorem addC (a b : Int) (w : World) :
    Calls Tryd.prog 29 #[.int .i64 a, .int .i64 b] w fun e w' => e = .returned (.tuple #[.int .i64 (addV a b), .bool (addB a b)]) ∧ w = w' := by
  have ha := clampV_bd a
  have hb := clampV_bd b
  go_enter Tryd.func29, Tryd.ntmps29
  go_wp2_with (first | (go_at_call 41; refine (clampP _ _).mono ?_; rintro e w' ⟨rfl, rfl⟩) | go_in)
  all_goals go_ret2
  all_goals exact ⟨ret_ib rfl (by simp [addB, *]), rfl⟩
set_option maxHeartbeats 1000000 in
theorem subC (a b : Int) (w : World) :
    Calls Tryd.prog 28 #[.int .i64 a, .int .i64 b] w fun e w' => e = .returned (.tuple #[.int .i64 (subV a b), .bool (subB a b)]) ∧ w = w' := by
  have ha := clampV_bd a
  have hb := clampV_bd b
  go_enter Tryd.func28, Tryd.ntmps28
  go_wp2_with (first | (go_at_call 41; refine (clampP _ _).mono ?_; rintro e w' ⟨rfl, rfl⟩) | go_in)
  all_goals go_ret2
  all_goals exact ⟨ret_ib rfl (by simp [subB, *]), rfl⟩
def sumF : List Int → Int × Bool → Int × Bool
  | [], s => s
  | x :: r, s => sumF r (addV s.1 x, s.2 && addB s.1 x)
def sumV (xs : List Int) : Int := (sumF xs (0, true)).1
def sumB (xs : List Int) : Bool := (sumF xs (0, true)).2
theorem sumF_drop (xs : List Int) (k : Nat) (hk : k < xs.length) (s : Int × Bool) : sumF (xs.drop k) s = sumF (xs.drop (k + 1)) (addV s.1 (xs.getD k 0), s.2 && addB s.1 (xs.getD k 0)) := by
  have e : xs.drop k = xs.getD k 0 :: xs.drop (k + 1) := by
    rw [List.drop_eq_getElem_cons hk]
    simp [List.getD, hk]
  rw [e]; rfl
def SumAt (xs : List Int) (k : Nat) (v : Int) (b : Bool) : Prop := sumF (xs.drop k) (v, b) = sumF xs (0, true)
theorem SumAt.next {xs : List Int} {k : Nat} {v : Int} {b : Bool} (h : SumAt xs k v b) (hk : k < xs.length) : SumAt xs (k + 1) (addV v (xs.getD k 0)) (b && addB v (xs.getD k 0)) := by
  unfold SumAt at h ⊢
  rw [← h, sumF_drop xs k hk]
theorem SumAt.done {xs : List Int} {v : Int} {b : Bool} (h : SumAt xs xs.length v b) : sumV xs = v ∧ sumB xs = b := by
  unfold SumAt at h
  rw [List.drop_length] at h
  unfold sumV sumB
  rw [← h]
  exact ⟨rfl, rfl⟩
set_option maxHeartbeats 1000000 in
theorem sumC (xs : List Int) (A : Option Addr) (c : Nat) (w : World) (hr : ReadsInt w .i64 A xs.length xs) :
    Calls Tryd.prog 40 #[.slice A xs.length c] w fun e w' => e = .returned (.tuple #[.int .i64 (sumV xs), .bool (sumB xs)]) ∧ w = w' := by
  have hn := hr.2.1
  have HR := Lib.hid hr
  clear hr
  go_enter Tryd.func40, Tryd.ntmps40
  go_wp2_with fail
  go_loop [4, 5, 12] (fun s4 s5 i => ∃ (k : Nat) (v : Int) (b : Bool), k ≤ xs.length ∧ i = .int .i64 k ∧ s4 = .int .i64 v ∧ s5 = .bool b ∧ SumAt xs k v b) (fun _ _ i => xs.length - (intOf i).toNat)
  case atStart => exact ⟨0, 0, true, by omega, rfl, rfl, rfl, rfl⟩
  case round =>
    obtain ⟨k, v, b, hk, rfl, rfl, rfl, hs⟩ := hrel
    by_cases hlt : k < xs.length
    · have hs' := hs.next hlt
      obtain ⟨x, hx⟩ : ∃ x, x = xs.getD k 0 := ⟨_, rfl⟩
      rw [← hx] at hs'
      obtain ⟨ad, rfl, hc⟩ := HR.out.at_ k (by omega) (by omega)
      have hc' : w.cell? (ad.add k) = some (.int .i64 x) := by rw [hx]; exact hc
      clear hc hx hs HR
      cases b with
      | true =>
        go_wp2_with (go_at_call 29; refine (addC _ _ _).mono ?_; rintro e w' ⟨rfl, rfl⟩)
        go_round
        case rel => exact ⟨k + 1, _, _, by omega, by go_num, rfl, rfl, by simpa using hs'⟩
        case measure => simp [intOf]; omega
      | false =>
        go_wp2_with (go_at_call 29; refine (addC _ _ _).mono ?_; rintro e w' ⟨rfl, rfl⟩)
        go_round
        case rel => exact ⟨k + 1, _, _, by omega, by go_num, rfl, rfl, by simpa using hs'⟩
        case measure => simp [intOf]; omega
    · obtain rfl : k = xs.length := by omega
      obtain ⟨e1, e2⟩ := hs.done
      subst e1
      subst e2
      clear hs
      go_wp2
      go_ret2
      exact ⟨rfl, rfl⟩
end Go.Proofs
