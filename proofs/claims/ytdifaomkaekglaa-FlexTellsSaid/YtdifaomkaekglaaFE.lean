/- Contracts of functions of the given program and of Go's library, proved by walking their text, and plain lemmas (part E); no condition beside those that each theorem states. -/
import Derived.Test.YtdifaomkaekglaaProg
import Derived.WalkKit
import Derived.WalkLawsBesides
import Derived.WalkSpells
import Derived.Below
import Derived.Deep.Draws
import Derived.Deep.AppendLies
import Derived.Maps.AppendAt
import Derived.OwnWalk
import Derived.Laws.BytesArg
import Derived.Laws.MakeOwn
import Derived.Laws.OwnMore
import Derived.Deep.OwnRows
import Derived.Laws.Slices
import Derived.KernelRfl
import Derived.RowKit3
import Derived.Deep.LoopGhost
import Derived.Deep.QuietTactic
import Derived.BigQuiet
import Derived.WideLaws
import Derived.Deep.DeepCutAuto
import Derived.Deep.CutBlock
import Derived.Deep.RegionHeld3
import Derived.Laws.Rows
import Derived.Laws.Tables
import Derived.RowKit
import Derived.Lib.Hide
import Derived.Test.YtdifaomkaekglaaWWords
set_option linter.unusedVariables false
set_option linter.unusedSimpArgs false
namespace Go.Proofs
open Go.RowKit Go.Proofs.YtdifaomkaekglaaW.PrintWords
def clampV (n : Int) : Int := if n > 1099511627776 then 1099511627776 else if n < -1099511627776 then -1099511627776 else n
def clampB (n : Int) : Bool := decide (-1099511627776 ≤ n) && decide (n ≤ 1099511627776)
theorem clampV_bd (n : Int) : -1099511627776 ≤ clampV n ∧ clampV n ≤ 1099511627776 := by unfold clampV; split <;> (try split) <;> omega
theorem clampB_iff (n : Int) : clampB n = true ↔ -1099511627776 ≤ n ∧ n ≤ 1099511627776 := by simp [clampB]
theorem clampB_f {n : Int} (h : n < -1099511627776 ∨ 1099511627776 < n) : clampB n = false := by rw [Bool.eq_false_iff, Ne, clampB_iff]; omega
theorem clampB_t {n : Int} (h : -1099511627776 ≤ n) (h' : n ≤ 1099511627776) : clampB n = true := (clampB_iff n).2 ⟨h, h'⟩
theorem clampV_t {n : Int} (h : -1099511627776 ≤ n) (h' : n ≤ 1099511627776) : clampV n = n := by unfold clampV; rw [if_neg (by omega), if_neg (by omega)]
theorem clampV_hi {n : Int} (h : 1099511627776 < n) : clampV n = 1099511627776 := by unfold clampV; rw [if_pos h]
theorem clampV_lo {n : Int} (h : n < -1099511627776) : clampV n = -1099511627776 := by unfold clampV; rw [if_neg (by omega), if_pos h]
theorem ret_ib {a c : Int} {b d : Bool} (h : a = c) (h' : b = d) : Ending.returned (.tuple #[.int .i64 a, .bool b]) = .returned (.tuple #[.int .i64 c, .bool d]) := by rw [h, h']
theorem clampP (n : Int) (w : World) :
    Calls Try.prog 54 #[.int .i64 n] w fun e w' => e = .returned (.tuple #[.int .i64 (clampV n), .bool (clampB n)]) ∧ w = w' := by
  by_cases h1 : 1099511627776 < n
  · go_enter Try.func54, Try.ntmps54
    go_wp2
    go_ret2
    exact ⟨ret_ib (clampV_hi h1).symm (by rw [clampB_f (.inr h1)]; simp; omega), rfl⟩
  · by_cases h2 : n < -1099511627776
    · go_enter Try.func54, Try.ntmps54
      go_wp2
      go_ret2
      exact ⟨ret_ib (clampV_lo h2).symm (by rw [clampB_f (.inl h2)]; simp; omega), rfl⟩
    · go_enter Try.func54, Try.ntmps54
      go_wp2
      go_ret2
      exact ⟨ret_ib (clampV_t (by omega) (by omega)).symm (by rw [clampB_t (by omega) (by omega)]), rfl⟩
theorem clampR (n : Int) (w : World) :
    Calls Try.prog 11 #[.int .i64 n] w fun e w' => e = .returned (.tuple #[.int .i64 (clampV n), .bool (clampB n)]) ∧ w = w' := by
  by_cases h1 : 1099511627776 < n
  · go_enter Try.func11, Try.ntmps11
    go_wp2
    go_ret2
    exact ⟨ret_ib (clampV_hi h1).symm (by rw [clampB_f (.inr h1)]), rfl⟩
  · by_cases h2 : n < -1099511627776
    · go_enter Try.func11, Try.ntmps11
      go_wp2
      go_ret2
      exact ⟨ret_ib (clampV_lo h2).symm (by rw [clampB_f (.inl h2)]), rfl⟩
    · go_enter Try.func11, Try.ntmps11
      go_wp2
      go_ret2
      exact ⟨ret_ib (clampV_t (by omega) (by omega)).symm (by rw [clampB_t (by omega) (by omega)]), rfl⟩
def addV (a b : Int) : Int := clampV (clampV a + clampV b)
def addB (a b : Int) : Bool := clampB (clampV a + clampV b) && clampB a && clampB b
def subV (a b : Int) : Int := clampV (clampV a - clampV b)
def subB (a b : Int) : Bool := clampB (clampV a - clampV b) && clampB a && clampB b
set_option maxHeartbeats 1000000 in
theorem addC (a b : Int) (w : World) :
    Calls Try.prog 32 #[.int .i64 a, .int .i64 b] w fun e w' => e = .returned (.tuple #[.int .i64 (addV a b), .bool (addB a b)]) ∧ w = w' := by
  have ha := clampV_bd a
  have hb := clampV_bd b
  go_enter Try.func32, Try.ntmps32
  go_wp2_with (first | (go_at_call 54; refine (clampP _ _).mono ?_; rintro e w' ⟨rfl, rfl⟩) | go_in)
  all_goals go_ret2
  all_goals exact ⟨ret_ib rfl (by simp [addB, *]), rfl⟩
set_option maxHeartbeats 1000000 in
theorem subC (a b : Int) (w : World) :
    Calls Try.prog 45 #[.int .i64 a, .int .i64 b] w fun e w' => e = .returned (.tuple #[.int .i64 (subV a b), .bool (subB a b)]) ∧ w = w' := by
  have ha := clampV_bd a
  have hb := clampV_bd b
  go_enter Try.func45, Try.ntmps45
  go_wp2_with (first | (go_at_call 54; refine (clampP _ _).mono ?_; rintro e w' ⟨rfl, rfl⟩) | go_in)
  all_goals go_ret2
  all_goals exact ⟨ret_ib rfl (by simp [subB, *]), rfl⟩
def sumF : List Int → Int × Bool → Int × Bool
  | [], s => s
  | x :: r, s => sumF r (addV s.1 x, s.2 && addB s.1 x)
def sumV (xs : List Int) : Int := (sumF xs (0, true)).1
def sumB (xs : List Int) : Bool := (sumF xs (0, true)).2
theorem sumF_drop (xs : List Int) (k : Nat) (hk : k < xs.length) (s : Int × Bool) : sumF (xs.drop k) s = sumF (xs.drop (k + 1)) (addV s.1 (xs.getD k 0), s.2 && addB s.1 (xs.getD k 0)) := by
  have e : xs.drop k = xs.getD k 0 :: xs.drop (k + 1) := by
    rw [List.drop_eq_getElem_cons hk]
    simp [List.getD, hk]
  rw [e]; rfl
def SumAt (xs : List Int) (k : Nat) (v : Int) (b : Bool) : Prop := sumF (xs.drop k) (v, b) = sumF xs (0, true)
theorem SumAt.next {xs : List Int} {k : Nat} {v : Int} {b : Bool} (h : SumAt xs k v b) (hk : k < xs.length) : SumAt xs (k + 1) (addV v (xs.getD k 0)) (b && addB v (xs.getD k 0)) := by
  unfold SumAt at h ⊢
  rw [← h, sumF_drop xs k hk]
theorem SumAt.done {xs : List Int} {v : Int} {b : Bool} (h : SumAt xs xs.length v b) : sumV xs = v ∧ sumB xs = b := by
  unfold SumAt at h
  rw [List.drop_length] at h
  unfold sumV sumB
  rw [← h]
  exact ⟨rfl, rfl⟩
set_option maxHeartbeats 1000000 in
theorem sumC (xs : List Int) (A : Option Addr) (c : Nat) (w : World) (hr : ReadsInt w .i64 A xs.length xs) :
    Calls Try.prog 44 #[.slice A xs.length c] w fun e w' => e = .returned (.tuple #[.int .i64 (sumV xs), .bool (sumB xs)]) ∧ w = w' := by
  have hn := hr.2.1
  have HR := Lib.hid hr
  clear hr
  go_enter Try.func44, Try.ntmps44
  go_wp2_with fail
  go_loop [4, 5, 12] (fun s4 s5 i => ∃ (k : Nat) (v : Int) (b : Bool), k ≤ xs.length ∧ i = .int .i64 k ∧ s4 = .int .i64 v ∧ s5 = .bool b ∧ SumAt xs k v b) (fun _ _ i => xs.length - (intOf i).toNat)
  case atStart => exact ⟨0, 0, true, by omega, rfl, rfl, rfl, rfl⟩
  case round =>
    obtain ⟨k, v, b, hk, rfl, rfl, rfl, hs⟩ := hrel
    by_cases hlt : k < xs.length
    · have hs' := hs.next hlt
      obtain ⟨x, hx⟩ : ∃ x, x = xs.getD k 0 := ⟨_, rfl⟩
      rw [← hx] at hs'
      obtain ⟨ad, rfl, hc⟩ := HR.out.at_ k (by omega) (by omega)
      have hc' : w.cell? (ad.add k) = some (.int .i64 x) := by rw [hx]; exact hc
      clear hc hx hs HR
      cases b with
      | true =>
        go_wp2_with (go_at_call 32; refine (addC _ _ _).mono ?_; rintro e w' ⟨rfl, rfl⟩)
        go_round
        case rel => exact ⟨k + 1, _, _, by omega, by go_num, rfl, rfl, by simpa using hs'⟩
        case measure => simp [intOf]; omega
      | false =>
        go_wp2_with (go_at_call 32; refine (addC _ _ _).mono ?_; rintro e w' ⟨rfl, rfl⟩)
        go_round
        case rel => exact ⟨k + 1, _, _, by omega, by go_num, rfl, rfl, by simpa using hs'⟩
        case measure => simp [intOf]; omega
    · obtain rfl : k = xs.length := by omega
      obtain ⟨e1, e2⟩ := hs.done
      subst e1
      subst e2
      clear hs
      go_wp2
      go_ret2
      exact ⟨rfl, rfl⟩
end Go.Proofs

namespace Go.Proofs.Prt
open Go.RowKit Go.Proofs Go.Proofs.YtdifaomkaekglaaW.PrintWords
def partOk (num den : Int) : Bool := decide (0 ≤ num ∧ num ≤ 1048576 ∧ 1 ≤ den ∧ den ≤ 1048576)
def partV (a num den : Int) : Int := if partOk num den then clampV ((clampV a * num).tdiv den) else 0
def partB (a num den : Int) : Bool := partOk num den && clampB ((clampV a * num).tdiv den) && clampB a
theorem mul_bd {a n : Int} (h1 : -1099511627776 ≤ a) (h2 : a ≤ 1099511627776) (h3 : 0 ≤ n) (h4 : n ≤ 1048576) : -1152921504606846976 ≤ a * n ∧ a * n ≤ 1152921504606846976 := by
  constructor
  · have := Int.mul_le_mul_of_nonneg_right h1 h3
    have h5 : (-1099511627776) * n ≥ -1099511627776 * 1048576 := by omega
    omega
  · have := Int.mul_le_mul_of_nonneg_right h2 h3
    omega
theorem tdiv_bd {x d B : Int} (h1 : -B ≤ x) (h2 : x ≤ B) (_hd : 1 ≤ d) : -B ≤ x.tdiv d ∧ x.tdiv d ≤ B := by
  have h := Int.natAbs_tdiv x d
  have h3 : (x.tdiv d).natAbs ≤ x.natAbs := by rw [h]; exact Nat.div_le_self _ _
  omega
set_option maxHeartbeats 1000000 in
theorem partC (a num den : Int) (w : World) :
    Calls Try.prog 50 #[.int .i64 a, .int .i64 num, .int .i64 den] w fun e w' => e = .returned (.tuple #[.int .i64 (partV a num den), .bool (partB a num den)]) ∧ w = w' := by
  by_cases h : 0 ≤ num ∧ num ≤ 1048576 ∧ 1 ≤ den ∧ den ≤ 1048576
  · have ho : partOk num den = true := by simp [partOk, h]
    obtain ⟨g1, g2, g3, g4⟩ := h
    obtain ⟨c1, c2⟩ := clampV_bd a
    obtain ⟨m1, m2⟩ := mul_bd c1 c2 g1 g2
    obtain ⟨t1, t2⟩ := tdiv_bd (B := 1152921504606846976) m1 m2 g3
    have HO := Lib.hid ho
    clear ho
    go_enter Try.func50, Try.ntmps50
    go_wp2_with (go_at_call 54; refine (clampP _ _).mono ?_; rintro e w' ⟨rfl, rfl⟩)
    all_goals go_ret2
    all_goals exact ⟨ret_ib (by simp [partV, HO.out]) (by simp [partB, HO.out, *]), rfl⟩
  · have ho : partOk num den = false := by simp [partOk]; omega
    have HO := Lib.hid ho
    clear ho
    have h2 : num < 0 ∨ (0 ≤ num ∧ 1048576 < num) ∨ (0 ≤ num ∧ num ≤ 1048576 ∧ den < 1) ∨ (0 ≤ num ∧ num ≤ 1048576 ∧ 1 ≤ den ∧ 1048576 < den) := by omega
    clear h
    rcases h2 with h1 | ⟨h1, h2⟩ | ⟨h1, h2, h3⟩ | ⟨h1, h2, h3, h4⟩
    all_goals
      go_enter Try.func50, Try.ntmps50
      go_wp2_with (go_at_call 54; refine (clampP _ _).mono ?_; rintro e w' ⟨rfl, rfl⟩)
      go_ret2
      exact ⟨ret_ib (by simp [partV, HO.out]) (by simp [partB, HO.out]), rfl⟩
end Go.Proofs.Prt

namespace Go.Proofs.Flx
open Go.RowKit Go.Proofs Go.Proofs.YtdifaomkaekglaaW.PrintWords

abbrev It := Int × Int × Int × Int
def kIt : Kd It := Kd.pair (Kd.int .i64) (Kd.pair (Kd.int .i64) (Kd.pair (Kd.int .i64) (Kd.int .i64)))
def ints (l : List Int) : Array Value := (l.map (Value.int .i64)).toArray
def bls (l : List Bool) : Array Value := (l.map Value.bool).toArray
theorem ints_get (l : List Int) (i : Nat) (h : i < l.length) : (ints l)[i]? = some (.int .i64 (l.getD i 0)) := by simp [ints, h, List.getD]
theorem bls_get (l : List Bool) (i : Nat) (h : i < l.length) : (bls l)[i]? = some (.bool (l.getD i false)) := by simp [bls, h, List.getD]
theorem ints_set (l : List Int) (i : Nat) (x : Int) : (ints l).setIfInBounds i (.int .i64 x) = ints (l.set i x) := by
  unfold ints
  rw [List.map_set]
  apply Array.ext'
  simp
theorem bls_set (l : List Bool) (i : Nat) (x : Bool) : (bls l).setIfInBounds i (.bool x) = bls (l.set i x) := by
  unfold bls
  rw [List.map_set]
  apply Array.ext'
  simp
/-- A sharer in memory. -/
structure Shr (B P Z F : Nat) (A : Option Addr) (c : Nat) (w0 : World) (its : List It) (zs : List Int) (fs : List Bool) (rough : Bool) (w : World) : Prop where
  hP : w.heap[P]? = some (.cells #[.slice A its.length c, .slice (some ⟨Z, 0, none⟩) zs.length zs.length, .slice (some ⟨F, 0, none⟩) fs.length fs.length, .bool rough] 69 (0, 0))
  hZ : w.heap[Z]? = some (.cells (ints zs) 2 (0, 0))
  hF : w.heap[F]? = some (.cells (bls fs) 4 (0, 0))
  its : kIt.R 48 w B (fun _ => True) (.slice A its.length c) its
  bP : B ≤ P
  bZ : B ≤ Z
  bF : B ≤ F
  below : Below B w0 w
  lt : w0.heap.size = B
theorem lt_get {w : World} {i : Nat} {o : Obj} (h : w.heap[i]? = some o) : i < w.heap.size := (Array.getElem?_eq_some_iff.1 h).1
section
variable {B P Z F c : Nat} {A : Option Addr} {w0 w w' : World} {its : List It} {zs : List Int} {fs : List Bool} {rough : Bool}
theorem Shr.move (h : Shr B P Z F A c w0 its zs fs rough w) (hb : Below w.heap.size w w') : Shr B P Z F A c w0 its zs fs rough w' where
  hP := (hb.block P (lt_get h.hP)).trans h.hP
  hZ := (hb.block Z (lt_get h.hZ)).trans h.hZ
  hF := (hb.block F (lt_get h.hF)).trans h.hF
  its := Kd.R_below h.its hb
  bP := h.bP
  bZ := h.bZ
  bF := h.bF
  below := h.below.trans (hb.mono (by have := h.below.size; have := h.lt; omega))
  lt := h.lt
theorem Shr.drew (h : Shr B P Z F A c w0 its zs fs rough w) : Shr B P Z F A c w0 its zs fs rough w.drew := h.move (Below.refl _ _).drew
theorem Shr.alloc (h : Shr B P Z F A c w0 its zs fs rough w) (o : Obj) : Shr B P Z F A c w0 its zs fs rough (w.alloc o) := h.move ((Below.refl _ _).alloc (Nat.le_refl _) _)
theorem ne_of_type {w : World} {a b : Nat} {x y : Array Value} {s t : TypeId} (h : w.heap[a]? = some (.cells x s (0, 0))) (g : w.heap[b]? = some (.cells y t (0, 0))) (hst : s ≠ t) : a ≠ b := by
  rintro rfl
  rw [h] at g
  injection g with g
  injection g with _ g
  exact hst g
theorem Shr.PZ (h : Shr B P Z F A c w0 its zs fs rough w) : P ≠ Z := ne_of_type h.hP h.hZ (by decide)
theorem Shr.PF (h : Shr B P Z F A c w0 its zs fs rough w) : P ≠ F := ne_of_type h.hP h.hF (by decide)
theorem Shr.ZF (h : Shr B P Z F A c w0 its zs fs rough w) : Z ≠ F := ne_of_type h.hZ h.hF (by decide)
theorem Shr.setRough (h : Shr B P Z F A c w0 its zs fs rough w) (r : Bool) : Shr B P Z F A c w0 its zs fs r (w.setCell ⟨P, 3, none⟩ (.bool r)) where
  hP := heap_setCell_same _ _ 3 _ _ (.bool r) h.hP
  hZ := (heap_setCell_other _ _ _ _ (Ne.symm h.PZ)).trans h.hZ
  hF := (heap_setCell_other _ _ _ _ (Ne.symm h.PF)).trans h.hF
  its := Kd.R_set h.its h.hP (by simp [kIt, Kd.pair, Kd.int, Kd.scalar]) 3 _
  bP := h.bP
  bZ := h.bZ
  bF := h.bF
  below := h.below.setCell h.bP _
  lt := h.lt
theorem Shr.setZ (h : Shr B P Z F A c w0 its zs fs rough w) (i : Nat) (x : Int) : Shr B P Z F A c w0 its (zs.set i x) fs rough (w.setCell ⟨Z, i, none⟩ (.int .i64 x)) where
  hP := by rw [List.length_set]; exact (heap_setCell_other _ _ _ _ h.PZ).trans h.hP
  hZ := by rw [← ints_set]; exact heap_setCell_same _ _ i _ _ _ h.hZ
  hF := (heap_setCell_other _ _ _ _ (Ne.symm h.ZF)).trans h.hF
  its := Kd.R_set h.its h.hZ (by simp [kIt, Kd.pair, Kd.int, Kd.scalar]) i _
  bP := h.bP
  bZ := h.bZ
  bF := h.bF
  below := h.below.setCell h.bZ _
  lt := h.lt
theorem Shr.setF (h : Shr B P Z F A c w0 its zs fs rough w) (i : Nat) (x : Bool) : Shr B P Z F A c w0 its zs (fs.set i x) rough (w.setCell ⟨F, i, none⟩ (.bool x)) where
  hP := by rw [List.length_set]; exact (heap_setCell_other _ _ _ _ h.PF).trans h.hP
  hZ := (heap_setCell_other _ _ _ _ h.ZF).trans h.hZ
  hF := by rw [← bls_set]; exact heap_setCell_same _ _ i _ _ _ h.hF
  its := Kd.R_set h.its h.hF (by simp [kIt, Kd.pair, Kd.int, Kd.scalar]) i _
  bP := h.bP
  bZ := h.bZ
  bF := h.bF
  below := h.below.setCell h.bF _
  lt := h.lt
theorem Shr.cells (h : Shr B P Z F A c w0 its zs fs rough w) : w.cell? ⟨P, 0, none⟩ = some (.slice A its.length c) ∧ w.cell? ⟨P, 1, none⟩ = some (.slice (some ⟨Z, 0, none⟩) zs.length zs.length) ∧
    w.cell? ⟨P, 2, none⟩ = some (.slice (some ⟨F, 0, none⟩) fs.length fs.length) ∧ w.cell? ⟨P, 3, none⟩ = some (.bool rough) ∧ w.frozen? ⟨P, 3, none⟩ = false :=
  ⟨(cell_of_row _ _ _ _ _ _ h.hP).trans rfl, (cell_of_row _ _ _ _ _ _ h.hP).trans rfl, (cell_of_row _ _ _ _ _ _ h.hP).trans rfl, (cell_of_row _ _ _ _ _ _ h.hP).trans rfl, frozen_of_row _ _ _ _ _ h.hP⟩
theorem Shr.zAt (h : Shr B P Z F A c w0 its zs fs rough w) (i : Nat) (hi : i < zs.length) : w.cell? ⟨Z, i, none⟩ = some (.int .i64 (zs.getD i 0)) ∧ w.frozen? ⟨Z, i, none⟩ = false :=
  ⟨(cell_of_row _ _ _ _ _ _ h.hZ).trans (ints_get _ _ hi), frozen_of_row _ _ _ _ _ h.hZ⟩
theorem Shr.fAt (h : Shr B P Z F A c w0 its zs fs rough w) (i : Nat) (hi : i < fs.length) : w.cell? ⟨F, i, none⟩ = some (.bool (fs.getD i false)) ∧ w.frozen? ⟨F, i, none⟩ = false :=
  ⟨(cell_of_row _ _ _ _ _ _ h.hF).trans (bls_get _ _ hi), frozen_of_row _ _ _ _ _ h.hF⟩
end
/-! ### of -/
theorem ofC (P : Nat) (n : Int) (ex rough : Bool) (w : World) (hc : w.cell? ⟨P, 3, none⟩ = some (.bool rough)) (hf : w.frozen? ⟨P, 3, none⟩ = false) :
    Calls Try.prog 57 #[.pointer (some ⟨P, 0, none⟩), .int .i64 n, .bool ex] w fun e w' => e = .returned (.int .i64 n) ∧ w.setCell ⟨P, 3, none⟩ (.bool (rough || !ex)) = w' := by
  cases rough with
  | true =>
    go_enter Try.func57, Try.ntmps57
    go_wp2
    go_ret
    exact ⟨rfl, rfl⟩
  | false =>
    go_enter Try.func57, Try.ntmps57
    go_wp2
    go_ret
    exact ⟨rfl, by simp⟩
/-! ### freeze -/
def frz (i : Nat) (s : List Int × List Bool × Bool) : List Int × List Bool × Bool :=
  if s.2.1.getD i false = false ∧ s.1.getD i 0 < 0 then (s.1.set i 0, s.2.1.set i true, true) else s
def frzN : Nat → Nat → List Int × List Bool × Bool → List Int × List Bool × Bool
  | 0, _, s => s
  | d + 1, i, s => frzN d (i + 1) (frz i s)
theorem frzN_step {n k : Nat} (h : k < n) (s : List Int × List Bool × Bool) : frzN (n - k) k s = frzN (n - (k + 1)) (k + 1) (frz k s) := by
  obtain ⟨d, hd⟩ : ∃ d, n - k = d + 1 := ⟨n - k - 1, by omega⟩
  rw [hd, show n - (k + 1) = d by omega]; rfl
theorem frz_len (i : Nat) (s : List Int × List Bool × Bool) : (frz i s).1.length = s.1.length ∧ (frz i s).2.1.length = s.2.1.length := by
  unfold frz; split <;> simp
set_option maxHeartbeats 2000000 in
theorem freezeC (B P Z F c : Nat) (A : Option Addr) (w0 w : World) (its : List It) (zs : List Int) (fs : List Bool) (rough : Bool) (H : Shr B P Z F A c w0 its zs fs rough w) (hl : fs.length = zs.length) (hn : zs.length ≤ 100) :
    Calls Try.prog 38 #[.pointer (some ⟨P, 0, none⟩)] w fun e w' => e = .returned (.bool (frzN zs.length 0 (zs, fs, false)).2.2) ∧
      Shr B P Z F A c w0 its (frzN zs.length 0 (zs, fs, false)).1 (frzN zs.length 0 (zs, fs, false)).2.1 rough w' := by
  obtain ⟨n, en⟩ : ∃ n, n = zs.length := ⟨_, rfl⟩
  obtain ⟨s1, es⟩ : ∃ s1, s1 = frzN n 0 (zs, fs, false) := ⟨_, rfl⟩
  have HS : Aside (n = zs.length ∧ s1 = frzN n 0 (zs, fs, false)) := ⟨en, es⟩
  rw [← en, ← es]
  have A0 : Aside (Shr B P Z F A c w0 its zs fs rough w) := H
  obtain ⟨p0, p1, p2, p3, p4⟩ := H.cells
  rw [← en] at p1 hn
  rw [hl, ← en] at p2
  have HL : Aside (fs.length = zs.length) := hl
  clear H es p3 p4 p0 hl
  clear en
  go_enter Try.func38, Try.ntmps38
  go_wp2
  go_loopw [3, 11] (fun v i wr => ∃ (k : Nat) (s : List Int × List Bool × Bool), k ≤ n ∧ i = .int .i64 k ∧ v = .bool s.2.2 ∧ Aside (frzN (n - k) k s = s1 ∧ s.1.length = n ∧ s.2.1.length = n ∧ Shr B P Z F A c w0 its s.1 s.2.1 rough wr)) (fun _ i _ => n - (intOf i).toNat)
  case atStart => exact ⟨0, (zs, fs, false), Nat.zero_le _, rfl, rfl, HS.out.2.symm, HS.out.1.symm, by rw [HL.out]; exact HS.out.1.symm, A0.out⟩
  case round =>
    clear A0 p1 p2
    obtain ⟨k, ⟨z, f, b⟩, hk, rfl, rfl, C⟩ := hrel
    simp only
    by_cases hlt : k < n
    · have hltz : (k : Int) < (n : Int) := by omega
      obtain ⟨q0, q1, q2, q3⟩ := C.out
      have step := frzN_step hlt (z, f, b)
      rw [q0] at step
      obtain ⟨_, p1, p2, _, _⟩ := q3.cells
      obtain ⟨z1, z2⟩ := q3.zAt k (by omega)
      obtain ⟨f1, f2⟩ := q3.fAt k (by omega)
      simp only at q1 q2
      rw [q1] at p1
      rw [q2] at p2
      obtain ⟨x, hx⟩ : ∃ x, x = z.getD k 0 := ⟨_, rfl⟩
      obtain ⟨y, hy⟩ : ∃ y, y = f.getD k false := ⟨_, rfl⟩
      have z1' : wr.cell? ⟨Z, k, none⟩ = some (.int .i64 x) := by rw [hx]; exact z1
      have f1' : wr.cell? ⟨F, k, none⟩ = some (.bool y) := by rw [hy]; exact f1
      have D : Aside (s1 = frzN (n - (k + 1)) (k + 1) (frz k (z, f, b)) ∧ z.length = n ∧ f.length = n ∧ x = z.getD k 0 ∧ y = f.getD k false ∧ Shr B P Z F A c w0 its z f rough wr) := ⟨step, q1, q2, hx, hy, q3⟩
      clear C q0 q1 q2 q3 step z1 f1 hx hy
      by_cases hc : y = false ∧ x < 0
      · obtain ⟨rfl, hxz⟩ := hc
        have E : Aside (frz k (z, f, b) = (z.set k 0, f.set k true, true)) := by
          have q := D.out
          unfold frz
          rw [if_pos ⟨q.2.2.2.2.1.symm, by rw [← q.2.2.2.1]; exact hxz⟩]
          exact rfl
        have hne : Aside (Z ≠ F) := D.out.2.2.2.2.2.ZF
        have f3 : (wr.setCell ⟨Z, k, none⟩ (.int .i64 0)).cell? ⟨F, k, none⟩ = some (.bool false) := (World.cell?_setCell_other _ _ _ _ (by intro e; simp only [Addr.mk.injEq] at e; exact hne.out e.1)).trans f1'
        have z3 : (wr.setCell ⟨F, k, none⟩ (.bool true)).cell? ⟨Z, k, none⟩ = some (.int .i64 x) := (World.cell?_setCell_other _ _ _ _ (by intro e; simp only [Addr.mk.injEq] at e; exact hne.out e.1.symm)).trans z1'
        go_wp2
        go_region
        all_goals
          have R2 : Aside (Shr B P Z F A c w0 its (z.set k 0) (f.set k true) rough ((wr.setCell ⟨Z, k, none⟩ (.int .i64 0)).setCell ⟨F, k, none⟩ (.bool true)).drew) := ((D.out.2.2.2.2.2.setZ k 0).setF k true).drew
          go_wp2
          go_roundw
          case rel => 
            obtain ⟨d1, d2, d3, d4, d5, d6⟩ := D.out
            exact ⟨k + 1, (z.set k 0, f.set k true, true), by omega, by go_num, rfl, by rw [← E.out]; exact d1.symm, by simp [d2], by simp [d3], R2.out⟩
          case measure => simp [intOf]; omega
      · have E : Aside (frz k (z, f, b) = (z, f, b)) := by
          have q := D.out
          unfold frz
          rw [if_neg (fun h => hc ⟨q.2.2.2.2.1.trans h.1, by rw [q.2.2.2.1]; exact h.2⟩)]
          exact rfl
        have FIN : Aside (frzN (n - (k + 1)) (k + 1) (z, f, b) = s1) := by rw [← E.out]; exact D.out.1.symm
        cases y with
        | true =>
          go_wp2
          go_roundw
          case rel =>
            obtain ⟨d1, d2, d3, d4, d5, d6⟩ := D.out
            exact ⟨k + 1, (z, f, b), by omega, by go_num, rfl, FIN.out, d2, d3, d6⟩
          case measure => simp [intOf]; omega
        | false =>
          have hx0 : ¬ x < 0 := fun h => hc ⟨rfl, h⟩
          have hxd : decide (x < 0) = false := decide_eq_false hx0
          go_wp2
          go_roundw
          case rel =>
            obtain ⟨d1, d2, d3, d4, d5, d6⟩ := D.out
            exact ⟨k + 1, (z, f, b), by omega, by go_num, rfl, FIN.out, d2, d3, d6⟩
          case measure => simp [intOf]; omega
    · obtain rfl : k = n := by omega
      have hltz : ¬ (k : Int) < (k : Int) := by omega
      have E : Aside ((z, f, b) = s1) := by
        have q := C.out.1
        rw [Nat.sub_self] at q
        exact q
      go_wp2
      go_ret
      obtain ⟨q0, q1, q2, q3⟩ := C.out
      rw [← E.out]
      exact ⟨rfl, q3⟩
end Go.Proofs.Flx

namespace Go.Proofs.Flx
open Go.RowKit Go.Proofs Go.Proofs.YtdifaomkaekglaaW.PrintWords
theorem retI {k : IntKind} {a b : Int} (h : a = b) : Ending.returned (.int k a) = .returned (.int k b) := by rw [h]
def zIt : It := (0, 0, 0, 0)
theorem kIt_open {w : World} {x : It} {cs : List Value} (h : kIt.K w x cs) : cs = [.int .i64 x.1, .int .i64 x.2.1, .int .i64 x.2.2.1, .int .i64 x.2.2.2] := by
  obtain ⟨_, _, rfl, rfl, ⟨_, _, rfl, rfl, ⟨_, _, rfl, rfl, rfl⟩⟩⟩ := h
  exact rfl
theorem kIt_at {w : World} {A : Option Addr} {n : Nat} {xs : List It} (h : Kd.C kIt w A n xs) (i : Nat) (h1 : i < n) : ∃ ad, A = some ad ∧ w.cell? (ad.add (i * 4)) = some (.int .i64 (xs.getD i zIt).1) ∧
    w.cell? ⟨(ad.add (i * 4)).block, (ad.add (i * 4)).off + 1, none⟩ = some (.int .i64 (xs.getD i zIt).2.1) ∧ w.cell? ⟨(ad.add (i * 4)).block, (ad.add (i * 4)).off + 2, none⟩ = some (.int .i64 (xs.getD i zIt).2.2.1) ∧
    w.cell? ⟨(ad.add (i * 4)).block, (ad.add (i * 4)).off + 3, none⟩ = some (.int .i64 (xs.getD i zIt).2.2.2) := by
  obtain ⟨ad, c, e, _, hK, hc0⟩ := Kd.C_get h zIt (i : Int) (by omega) (by omega)
  have hc : ∀ j u, c[j]? = some u → w.cell? (ad.add (i * 4 + j)) = some u := hc0
  obtain rfl := kIt_open hK
  exact ⟨ad, e, hc 0 _ rfl, by rw [← add_field _ _ 1 (by omega)]; exact hc 1 _ rfl, by rw [← add_field _ _ 2 (by omega)]; exact hc 2 _ rfl, by rw [← add_field _ _ 3 (by omega)]; exact hc 3 _ rfl⟩
theorem Shr.itAt {B P Z F c : Nat} {A : Option Addr} {w0 w : World} {its : List It} {zs : List Int} {fs : List Bool} {rough : Bool} (h : Shr B P Z F A c w0 its zs fs rough w) (i : Nat) (h1 : i < its.length) : ∃ ad, A = some ad ∧ w.cell? (ad.add (i * 4)) = some (.int .i64 (its.getD i zIt).1) ∧
    w.cell? ⟨(ad.add (i * 4)).block, (ad.add (i * 4)).off + 1, none⟩ = some (.int .i64 (its.getD i zIt).2.1) ∧ w.cell? ⟨(ad.add (i * 4)).block, (ad.add (i * 4)).off + 2, none⟩ = some (.int .i64 (its.getD i zIt).2.2.1) ∧
    w.cell? ⟨(ad.add (i * 4)).block, (ad.add (i * 4)).off + 3, none⟩ = some (.int .i64 (its.getD i zIt).2.2.2) := by
  obtain ⟨A', c', e, _, hC⟩ := Kd.R_reads h.its
  injection e with e1 e2 e3
  rw [← e1] at hC
  exact kIt_at hC i h1
def part1 (its : List It) (zs : List Int) (fs : List Bool) (i : Nat) : List Int := [(its.getD i zIt).2.1, if fs.getD i false = true then zs.getD i 0 else (its.getD i zIt).1]
def partsTo (its : List It) (zs : List Int) (fs : List Bool) : Nat → List Int
  | 0 => []
  | k + 1 => partsTo its zs fs k ++ part1 its zs fs k
theorem partsTo_len (its : List It) (zs : List Int) (fs : List Bool) : ∀ k, (partsTo its zs fs k).length = 2 * k
  | 0 => rfl
  | k + 1 => by simp [partsTo, partsTo_len its zs fs k, part1]; omega
theorem flx_info2 : (Try.prog.info? 2).map (fun i => (i.zero, i.size, i.bytes)) = some (some (.int .i64 0), 1, 8) := by kernel_rfl
def restV (its : List It) (zs : List Int) (fs : List Bool) (room : Int) : Int := subV room (sumV (partsTo its zs fs its.length))
def restB (its : List It) (zs : List Int) (fs : List Bool) (room : Int) : Bool := sumB (partsTo its zs fs its.length) && subB room (sumV (partsTo its zs fs its.length))
set_option maxHeartbeats 4000000 in
set_option maxRecDepth 100000 in
theorem restC (B P Z F c : Nat) (A : Option Addr) (w0 w : World) (its : List It) (zs : List Int) (fs : List Bool) (rough : Bool) (room : Int) (H : Shr B P Z F A c w0 its zs fs rough w) (hz : zs.length = its.length) (hf : fs.length = its.length) (hn : its.length ≤ 100) :
    Calls Try.prog 34 #[.pointer (some ⟨P, 0, none⟩), .int .i64 room] w fun e w' => e = .returned (.int .i64 (restV its zs fs room)) ∧ Shr B P Z F A c w0 its zs fs (rough || !restB its zs fs room) w' := by
  obtain ⟨i0, hi0, hz0, hz1, hz2⟩ := info_parts flx_info2
  obtain ⟨n, en⟩ : ∃ n, n = its.length := ⟨_, rfl⟩
  have HN : Aside (n = its.length ∧ zs.length = n ∧ fs.length = n) := ⟨en, by omega, by omega⟩
  have A0 : Aside (Shr B P Z F A c w0 its zs fs rough w) := H
  obtain ⟨p0, p1, p2, p3, p4⟩ := H.cells
  rw [← en] at p0 hn
  clear H p1 p2 p3 p4 hz hf en
  go_enter Try.func34, Try.ntmps34
  go_wp2
  go_loopw [5, 14] (fun v i wr => ∃ (k : Nat), k ≤ n ∧ i = .int .i64 k ∧ Aside (wr.ownsRow w.heap.size 2 1 v (2 * k) (nums .i64 (partsTo its zs fs k)) ∧ Below w.heap.size w wr)) (fun _ i _ => n - (intOf i).toNat)
  case atStart => exact ⟨0, Nat.zero_le _, rfl, own_nil _ _ _ _, Below.refl _ _⟩
  case round =>
    clear p0
    obtain ⟨k, hk, rfl, C⟩ := hrel
    have S : Aside (Shr B P Z F A c w0 its zs fs rough wr) := A0.out.move C.out.2
    by_cases hlt : k < n
    · have hltz : (k : Int) < (n : Int) := by omega
      obtain ⟨_, p1, p2, _, _⟩ := S.out.cells
      have hnn := HN.out
      have hPl := lt_get S.out.hP
      have hZl := lt_get S.out.hZ
      have hFl := lt_get S.out.hF
      obtain ⟨z1, z2⟩ := S.out.zAt k (by omega)
      obtain ⟨f1, f2⟩ := S.out.fAt k (by omega)
      obtain ⟨ad, rfl, c1, c2, c3, c4⟩ := S.out.itAt k (by omega)
      rw [hnn.2.1] at p1
      rw [hnn.2.2] at p2
      obtain ⟨x, hx⟩ : ∃ x, x = its.getD k zIt := ⟨_, rfl⟩
      obtain ⟨z, hz⟩ : ∃ x, x = zs.getD k 0 := ⟨_, rfl⟩
      obtain ⟨f, hf⟩ : ∃ x, x = fs.getD k false := ⟨_, rfl⟩
      rw [← hx] at c1 c2 c3 c4
      rw [← hz] at z1
      rw [← hf] at f1
      have HX : Aside (part1 its zs fs k = [x.2.1, if f = true then z else x.1]) := by rw [hx, hz, hf]; exact rfl
      clear hx hz hf z2 f2 hnn
      obtain ⟨x1, x2, x3, x4⟩ := x
      simp only at c1 c2 c3 c4
      cases f
      · go_wp2_with (at_builtin; refine wpList_append_own _ rfl _ _ 28 rfl w.heap.size 2 i0 (.int .i64 0) 1 8 Try.underlying28 hi0 hz0 hz1 hz2 rfl (by decide) _ _ _ rfl ((C.out.1.alloc _).alloc _) ⟨wr.heap.size + 1, 0, none⟩ 2 2 [.int .i64 x2, .int .i64 x1] rfl rfl ?_ ?c2 ?c3 ?c4 ?c5 ?_)
        case c2 => exact ⟨rfl, rfl⟩
        case c3 => first | omega | (simp only [maxLen]; omega)
        case c4 => omega
        case c5 => have := C.out.2.size; first | omega | (simp; omega)
        intro v1 w1 hown1 hgrow _
        have A2 : Aside (w1.ownsRow w.heap.size 2 1 v1 (2 * (k + 1)) (nums .i64 (partsTo its zs fs (k + 1))) ∧ Below w.heap.size w w1) := by
          have e : partsTo its zs fs (k + 1) = partsTo its zs fs k ++ [x2, x1] := by rw [partsTo, HX.out]; rfl
          refine ⟨?_, ((C.out.2.alloc C.out.2.size _).alloc (by simp; have := C.out.2.size; omega) _).grown hgrow (by simp; have := C.out.2.size; omega) (own_base C.out.1)⟩
          rw [e, nums_append, show 2 * (k + 1) = 2 * k + 2 by omega]
          exact hown1
        clear hown1 hgrow C S
        go_wp2
        go_roundw
        case rel => exact ⟨k + 1, by omega, by go_num, A2.out⟩
        case measure => simp [intOf]; omega
      · go_wp2_with (at_builtin; refine wpList_append_own _ rfl _ _ 28 rfl w.heap.size 2 i0 (.int .i64 0) 1 8 Try.underlying28 hi0 hz0 hz1 hz2 rfl (by decide) _ _ _ rfl ((C.out.1.alloc _).alloc _) ⟨wr.heap.size + 1, 0, none⟩ 2 2 [.int .i64 x2, .int .i64 z] rfl rfl ?_ ?c2 ?c3 ?c4 ?c5 ?_)
        case c2 => exact ⟨rfl, rfl⟩
        case c3 => first | omega | (simp only [maxLen]; omega)
        case c4 => omega
        case c5 => have := C.out.2.size; first | omega | (simp; omega)
        intro v1 w1 hown1 hgrow _
        have A2 : Aside (w1.ownsRow w.heap.size 2 1 v1 (2 * (k + 1)) (nums .i64 (partsTo its zs fs (k + 1))) ∧ Below w.heap.size w w1) := by
          have e : partsTo its zs fs (k + 1) = partsTo its zs fs k ++ [x2, z] := by rw [partsTo, HX.out]; rfl
          refine ⟨?_, ((C.out.2.alloc C.out.2.size _).alloc (by simp; have := C.out.2.size; omega) _).grown hgrow (by simp; have := C.out.2.size; omega) (own_base C.out.1)⟩
          rw [e, nums_append, show 2 * (k + 1) = 2 * k + 2 by omega]
          exact hown1
        clear hown1 hgrow C S
        go_wp2
        go_roundw
        case rel => exact ⟨k + 1, by omega, by go_num, A2.out⟩
        case measure => simp [intOf]; omega
    · obtain rfl : k = n := by omega
      have hltz : ¬ (k : Int) < (k : Int) := by omega
      obtain ⟨A', c', hv, hrd⟩ := own_reads (k := .i64) C.out.1
      have R0 : Aside (ReadsInt wr .i64 A' (partsTo its zs fs k).length (partsTo its zs fs k) ∧ 2 * k = (partsTo its zs fs k).length) := by
        rw [partsTo_len]; exact ⟨hrd, rfl⟩
      have EV : Aside (restV its zs fs room = subV room (sumV (partsTo its zs fs k)) ∧ restB its zs fs room = (sumB (partsTo its zs fs k) && subB room (sumV (partsTo its zs fs k)))) := by
        unfold restV restB
        rw [← HN.out.1]; exact ⟨rfl, rfl⟩
      have hv2 : u5 = .slice A' (partsTo its zs fs k).length c' := by rw [hv, R0.out.2]
      clear hv hrd C
      subst hv2
      obtain ⟨ps, hps⟩ : ∃ ps, ps = partsTo its zs fs k := ⟨_, rfl⟩
      rw [← hps] at R0 EV ⊢
      clear hps
      obtain ⟨_, _, _, p3, p4⟩ := S.out.cells
      go_wp2_with (go_at_call 44; refine (sumC ps A' c' _ R0.out.1).mono ?_; rintro e w' ⟨rfl, rfl⟩)
      refine (ofC P (sumV ps) (sumB ps) rough _ p3 p4).mono ?_
      rintro e w1 ⟨rfl, rfl⟩
      have S1 : Aside (Shr B P Z F A c w0 its zs fs (rough || !sumB ps) (wr.setCell ⟨P, 3, none⟩ (.bool (rough || !sumB ps)))) := S.out.setRough _
      clear p3 p4
      generalize wr.setCell ⟨P, 3, none⟩ (.bool (rough || !sumB ps)) = W1 at S1 ⊢
      obtain ⟨_, _, _, p3, p4⟩ := S1.out.cells
      go_wp2_with (go_at_call 45; refine (subC _ _ _).mono ?_; rintro e w' ⟨rfl, rfl⟩)
      refine (ofC P (subV room (sumV ps)) (subB room (sumV ps)) (rough || !sumB ps) _ p3 p4).mono ?_
      rintro e w1 ⟨rfl, rfl⟩
      have S2 : Aside (Shr B P Z F A c w0 its zs fs ((rough || !sumB ps) || !subB room (sumV ps)) (W1.setCell ⟨P, 3, none⟩ (.bool ((rough || !sumB ps) || !subB room (sumV ps))))) := S1.out.setRough _
      generalize W1.setCell ⟨P, 3, none⟩ (.bool ((rough || !sumB ps) || !subB room (sumV ps))) = W2 at S2 ⊢
      clear p3 p4
      go_wp2
      go_ret
      refine ⟨retI EV.out.1.symm, ?_⟩
      rw [EV.out.2, Bool.not_and, ← Bool.or_assoc]
      exact S2.out
end Go.Proofs.Flx
