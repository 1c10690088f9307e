/- Contracts of functions of the given program, proved by walking their text (module Blk2); no condition beside those that each theorem states. -/
import Derived.Test.YtmfhhlgjbjbnhaaDoorProg
import Derived.WalkKit
import Derived.WalkLawsBesides
import Derived.WalkSpells
import Derived.Below
import Derived.Deep.Draws
import Derived.Deep.AppendLies
import Derived.Maps.AppendAt
import Derived.OwnWalk
import Derived.Laws.BytesArg
import Derived.Laws.MakeOwn
import Derived.Laws.OwnMore
import Derived.Deep.OwnRows
import Derived.Laws.Slices
import Derived.KernelRfl
import Derived.RowKit3
import Derived.Deep.LoopGhost
import Derived.Deep.QuietTactic
import Derived.BigQuiet
import Derived.WideLaws
import Derived.Deep.DeepCutAuto
import Derived.Deep.CutBlock
import Derived.Deep.RegionHeld3
import Derived.Laws.Rows
import Derived.Laws.Tables
import Derived.RowKit
import Derived.Outline
import Derived.Test.YtmfhhlgjbjbnhaaDoorBth
import Derived.Lib.Hide
import Derived.Deep.MidRow
set_option linter.unusedVariables false
set_option linter.unusedSimpArgs false
namespace Go.Proofs
open Go.RowKit Go.Proofs.YtmfhhlgjbjbnhaaDoorW.PrintWords
def partOk (num den : Int) : Bool := decide (0 ≤ num ∧ num ≤ 1048576 ∧ 1 ≤ den ∧ den ≤ 1048576)
def partV (a num den : Int) : Int := if partOk num den then clampV ((clampV a * num).tdiv den) else 0
def partB (a num den : Int) : Bool := partOk num den && clampB ((clampV a * num).tdiv den) && clampB a
theorem mul_bd {a n : Int} (h1 : -1099511627776 ≤ a) (h2 : a ≤ 1099511627776) (h3 : 0 ≤ n) (h4 : n ≤ 1048576) : -1152921504606846976 ≤ a * n ∧ a * n ≤ 1152921504606846976 := by
  constructor
  · have := Int.mul_le_mul_of_nonneg_right h1 h3
    have h5 : (-1099511627776) * n ≥ -1099511627776 * 1048576 := by omega
    omega
  · have := Int.mul_le_mul_of_nonneg_right h2 h3
    omega
theorem tdiv_bd {x d B : Int} (h1 : -B ≤ x) (h2 : x ≤ B) (_hd : 1 ≤ d) : -B ≤ x.tdiv d ∧ x.tdiv d ≤ B := by
  have h := Int.natAbs_tdiv x d
  have h3 : (x.tdiv d).natAbs ≤ x.natAbs := by rw [h]; exact Nat.div_le_self _ _
  omega
set_option maxHeartbeats 1000000 in
theorem partC (a num den : Int) (w : World) :
    Calls Tryd.prog 27 #[.int .i64 a, .int .i64 num, .int .i64 den] w fun e w' => e = .returned (.tuple #[.int .i64 (partV a num den), .bool (partB a num den)]) ∧ w = w' := by
  by_cases h : 0 ≤ num ∧ num ≤ 1048576 ∧ 1 ≤ den ∧ den ≤ 1048576
  · have ho : partOk num den = true := by simp [partOk, h]
    obtain ⟨g1, g2, g3, g4⟩ := h
    obtain ⟨c1, c2⟩ := clampV_bd a
    obtain ⟨m1, m2⟩ := mul_bd c1 c2 g1 g2
    obtain ⟨t1, t2⟩ := tdiv_bd (B := 1152921504606846976) m1 m2 g3
    have HO := Lib.hid ho
    clear ho
    go_enter Tryd.func27, Tryd.ntmps27
    go_wp2_with (go_at_call 41; refine (clampP _ _).mono ?_; rintro e w' ⟨rfl, rfl⟩)
    all_goals go_ret2
    all_goals exact ⟨ret_ib (by simp [partV, HO.out]) (by simp [partB, HO.out, *]), rfl⟩
  · have ho : partOk num den = false := by simp [partOk]; omega
    have HO := Lib.hid ho
    clear ho
    have h2 : num < 0 ∨ (0 ≤ num ∧ 1048576 < num) ∨ (0 ≤ num ∧ num ≤ 1048576 ∧ den < 1) ∨ (0 ≤ num ∧ num ≤ 1048576 ∧ 1 ≤ den ∧ 1048576 < den) := by omega
    clear h
    rcases h2 with h1 | ⟨h1, h2⟩ | ⟨h1, h2, h3⟩ | ⟨h1, h2, h3, h4⟩
    all_goals
      go_enter Tryd.func27, Tryd.ntmps27
      go_wp2_with (go_at_call 41; refine (clampP _ _).mono ?_; rintro e w' ⟨rfl, rfl⟩)
      go_ret2
      exact ⟨ret_ib (by simp [partV, HO.out]) (by simp [partB, HO.out]), rfl⟩
def acrossL (f : Nat → Int × Int) : List Int := [mgS f 3, mgS f 1, bdS f 3, bdS f 1, pdS f 3, pdS f 1]
def downL (f : Nat → Int × Int) : List Int := [mgS f 0, mgS f 2, bdS f 0, bdS f 2, pdS f 0, pdS f 2]
theorem acrossC (f : Nat → Int × Int) (w : World) :
    Calls Tryd.prog 9 #[sidesOf f] w fun e w' => e = .returned (.tuple #[.int .i64 (sumV (acrossL f)), .bool (sumB (acrossL f))]) ∧ Below w.heap.size w w' := by
  go_enter Tryd.func9, Tryd.ntmps9
  go_wp2_with (go_at_call 26; refine (both31 _ _ _ _ _ _ _ _ _ _ _ _ _).mono ?_; rintro e w' ⟨rfl, hb⟩)
  go_ret2
  exact ⟨rfl, ((Below.refl _ _).alloc (Nat.le_refl _) _).trans (hb.mono (by rw [alloc_size]; omega))⟩
theorem downC (f : Nat → Int × Int) (w : World) :
    Calls Tryd.prog 24 #[sidesOf f] w fun e w' => e = .returned (.tuple #[.int .i64 (sumV (downL f)), .bool (sumB (downL f))]) ∧ Below w.heap.size w w' := by
  go_enter Tryd.func24, Tryd.ntmps24
  go_wp2_with (go_at_call 26; refine (both02 _ _ _ _ _ _ _ _ _ _ _ _ _).mono ?_; rintro e w' ⟨rfl, hb⟩)
  go_ret2
  exact ⟨rfl, ((Below.refl _ _).alloc (Nat.le_refl _) _).trans (hb.mono (by rw [alloc_size]; omega))⟩
def heightV (f : Nat → Int × Int) (high : Int) : Int := if (f 3).1 = 2 then (f 3).2 else high
theorem heightC (f : Nat → Int × Int) (high : Int) (w : World) :
    Calls Tryd.prog 25 #[.agg (styA f), .int .i64 high] w fun e w' => e = .returned (.int .i64 (heightV f high)) ∧ Below w.heap.size w w' := by
  have a0 := at_styA f 3 (by omega)
  have a1 := at_styA1 f 3 (by omega)
  by_cases h : (f 3).1 = 2
  · have hq : ((f 3).1 == 2) = true := by rw [h]; rfl
    have H := Lib.hid h
    clear h
    go_enter Tryd.func25, Tryd.ntmps25
    go_wp2
    go_ret
    exact ⟨by rw [show heightV f high = _ from if_pos H.out]; rfl, ((Below.refl _ _).alloc (Nat.le_refl _) _).alloc (by rw [alloc_size]; omega) _⟩
  · have hq : ((f 3).1 == 2) = false := beq_eq_false_iff_ne.2 h
    have H := Lib.hid h
    clear h
    go_enter Tryd.func25, Tryd.ntmps25
    go_wp2
    go_ret
    exact ⟨by rw [show heightV f high = _ from if_neg H.out]; rfl, ((Below.refl _ _).alloc (Nat.le_refl _) _).alloc (by rw [alloc_size]; omega) _⟩
def widthV (f : Nat → Int × Int) (room : Int) : Int := if (f 2).1 = 2 then (f 2).2 else if (f 2).1 = 3 then partV room (min (f 2).2 640000) 6400 else max (subV room (sumV (acrossL f))) 0
def widthB (f : Nat → Int × Int) (room : Int) : Bool := if (f 2).1 = 2 then true else if (f 2).1 = 3 then partB room (min (f 2).2 640000) 6400 else sumB (acrossL f) && subB room (sumV (acrossL f))
set_option maxHeartbeats 2000000 in
theorem widthC (f : Nat → Int × Int) (room : Int) (w : World) :
    Calls Tryd.prog 11 #[.agg (styA f), .int .i64 room] w fun e w' => e = .returned (.tuple #[.int .i64 (widthV f room), .bool (widthB f room)]) ∧ Below w.heap.size w w' := by
  have a0 := at_styA f 2 (by omega)
  have a1 := at_styA1 f 2 (by omega)
  by_cases h : (f 2).1 = 2
  · have hq : ((f 2).1 == 2) = true := by rw [h]; rfl
    have H := Lib.hid h
    clear h
    go_enter Tryd.func11, Tryd.ntmps11
    go_wp2_with fail
    go_ret2
    exact ⟨ret_ib (by unfold widthV; rw [if_pos H.out]) (by unfold widthB; rw [if_pos H.out]), ((Below.refl _ _).alloc (Nat.le_refl _) _).alloc (by rw [alloc_size]; omega) _⟩
  · have hq : ((f 2).1 == 2) = false := beq_eq_false_iff_ne.2 h
    by_cases h3 : (f 2).1 = 3
    · have hq3 : ((f 2).1 == 3) = true := by rw [h3]; rfl
      have H := Lib.hid h
      have H3 := Lib.hid h3
      clear h h3
      by_cases hm : (f 2).2 ≤ 640000
      · go_enter Tryd.func11, Tryd.ntmps11
        go_wp2_with (go_at_call 27; refine (partC _ _ _ _).mono ?_; rintro e w' ⟨rfl, rfl⟩)
        go_ret2
        exact ⟨ret_ib (by unfold widthV; rw [if_neg H.out, if_pos H3.out, show min (f 2).2 640000 = (f 2).2 by omega]) (by unfold widthB; rw [if_neg H.out, if_pos H3.out, show min (f 2).2 640000 = (f 2).2 by omega]), ((Below.refl _ _).alloc (Nat.le_refl _) _).alloc (by rw [alloc_size]; omega) _⟩
      · go_enter Tryd.func11, Tryd.ntmps11
        go_wp2_with (go_at_call 27; refine (partC _ _ _ _).mono ?_; rintro e w' ⟨rfl, rfl⟩)
        go_ret2
        exact ⟨ret_ib (by unfold widthV; rw [if_neg H.out, if_pos H3.out, show min (f 2).2 640000 = 640000 by omega]) (by unfold widthB; rw [if_neg H.out, if_pos H3.out, show min (f 2).2 640000 = 640000 by omega]), ((Below.refl _ _).alloc (Nat.le_refl _) _).alloc (by rw [alloc_size]; omega) _⟩
    · have hq3 : ((f 2).1 == 3) = false := beq_eq_false_iff_ne.2 h3
      have H := Lib.hid h
      have H3 := Lib.hid h3
      clear h h3
      go_enter Tryd.func11, Tryd.ntmps11
      go_upto_region 7 with (fail)
      obtain ⟨W, hW⟩ : ∃ W, W = (w.alloc (Obj.cells (styA f) 25)).alloc (Obj.cells #[.int .i64 (f 2).1, .int .i64 (f 2).2] 23) := ⟨_, rfl⟩
      have hg : W.heap[w.heap.size]? = some (.cells (styA f) 25 (0, 0)) := by rw [hW]; simp only [alloc_get, alloc_size]; (repeat' (first | omega | (exact absurd trivial (by assumption)) | split | rfl))
      have hB : Below w.heap.size w W := by rw [hW]; exact ((Below.refl _ _).alloc (Nat.le_refl _) _).alloc (by rw [alloc_size]; omega) _
      rw [← hW]
      clear hW
      go_wp2_with (first | (refine wpList_load_row rfl 25 _ rfl w.heap.size rfl 25 _ _ _ hg Tryd.underlying25 rfl (info56.trans (congrArg some (size_styA _).symm)) ?_) | (go_at_call 10; refine (ofSC f _).mono ?_; rintro e w1 ⟨rfl, hb1⟩) | (go_at_call 9; refine (acrossC f _).mono ?_; rintro e w2 ⟨rfl, hb2⟩) | (go_at_call 28; refine (subC _ _ _).mono ?_; rintro e w3 ⟨rfl, rfl⟩))
      all_goals have p1 : Below w.heap.size w w1 := hB.trans (hb1.mono hB.size)
      all_goals have p2 : Below w.heap.size w w2 := p1.trans (hb2.mono p1.size)
      all_goals go_ret2
      all_goals exact ⟨ret_ib (by unfold widthV; rw [if_neg H.out, if_neg H3.out]; omega) (by unfold widthB; rw [if_neg H.out, if_neg H3.out]; simp [*]), p2⟩
end Go.Proofs
