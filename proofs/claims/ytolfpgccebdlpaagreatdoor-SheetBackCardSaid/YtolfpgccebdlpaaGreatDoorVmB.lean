/- value.May of the properties 1 to 26: its contract, proved by walking its text; no condition beside those that the theorem states. -/
import Derived.Test.YtolfpgccebdlpaaGreatDoorMay
import Derived.Deep.RegionWith
import Derived.Laws.BytesArg
import Derived.Lib.ConvBytes
import Derived.Lib.VarintBits
import Derived.Maps.OwnOps
import Derived.Maps.OwnSet
import Derived.Maps.Views
import Derived.BigQuiet
import Derived.Test.YtolfpgccebdlpaaGreatDoorScO
import Derived.Deep.RegionHeld3
set_option linter.unusedVariables false
set_option linter.unusedSimpArgs false
namespace Go.Proofs.Val
open Go.RowKit Go.Lib Go.Proofs Go.Proofs.YtolfpgccebdlpaaGreatDoorW.PrintWords
def rec0 (p : Nat) : SortRec := recOf p 0 0 0 0
theorem rec0_eq (p b1 b2 b3 b4 : Nat) (h1 : 1 ≤ p) (h2 : p ≤ 26) : (recOf p b1 b2 b3 b4).auto = (rec0 p).auto ∧ (recOf p b1 b2 b3 b4).length = (rec0 p).length ∧ (recOf p b1 b2 b3 b4).part = (rec0 p).part ∧ (recOf p b1 b2 b3 b4).below = (rec0 p).below ∧ (recOf p b1 b2 b3 b4).color = (rec0 p).color ∧ (recOf p b1 b2 b3 b4).number = (rec0 p).number ∧ (recOf p b1 b2 b3 b4).wn = (rec0 p).wn := by
  rcases cases26 h1 h2 with rfl | rfl | rfl | rfl | rfl | rfl | rfl | rfl | rfl | rfl | rfl | rfl | rfl | rfl | rfl | rfl | rfl | rfl | rfl | rfl | rfl | rfl | rfl | rfl | rfl | rfl <;> exact ⟨rfl, rfl, rfl, rfl, rfl, rfl, rfl⟩
def lowV (p : Nat) : Int := if (rec0 p).below = true then -63999999999 else 0
def mayV (p : Nat) (k n : Int) : Bool :=
  if k = 1 then (rec0 p).auto && decide (n = 0)
  else if k = 2 then (rec0 p).length && (decide (lowV p ≤ n) && decide (n ≤ 63999999999))
  else if k = 3 then (rec0 p).part && (decide (0 ≤ n) && decide (n ≤ 63999999999))
  else if k = 4 then (rec0 p).color && (decide (0 ≤ n) && decide (n ≤ 16777215))
  else if k = 5 then decide (0 ≤ n) && decide (n < ((rec0 p).wn : Int))
  else if k = 6 then (rec0 p).number && (decide (lowV p ≤ n) && decide (n ≤ 63999999999))
  else false
set_option maxHeartbeats 4000000 in
set_option maxRecDepth 100000 in
theorem mayC (p : Nat) (h1 : 1 ≤ p) (h2 : p ≤ 26) (k n : Int) (w : World) :
    Calls Tryz.prog 74 #[.int .i64 (p : Int), .agg #[.int .i64 k, .int .i64 n]] w fun e w' => e = .returned (.bool (mayV p k n)) ∧ Below w.heap.size w w' := by
  have hO := fun w => ofC p h1 h2 w
  have hE := fun b1 b2 b3 b4 => rec0_eq p b1 b2 b3 b4 h1 h2
  obtain ⟨r0, hr0⟩ : ∃ r0, rec0 p = r0 := ⟨_, rfl⟩
  go_enter Tryz.func74, Tryz.ntmps74
  go_upto_region 3 with (first | (go_at_call 116; refine (hO _).mono ?_; rintro e w1 ⟨b1, b2, b3, b4, rfl, hS, hB⟩; obtain ⟨ea, el, ep, eb, ec, en, ew⟩ := hE b1 b2 b3 b4; generalize recOf p b1 b2 b3 b4 = r at ea el ep eb ec en ew ⊢))
  obtain ⟨W2, hW2⟩ : ∃ W2, w1.alloc (.cells #[.string r.name, .bool r0.auto, .bool r0.length, .bool r0.part, .bool r0.below, .bool r0.color, .bool r0.number, .slice r.wa r0.wn r0.wn, .int .i64 r.k, .int .i64 r.n] 163) = W2 := ⟨_, rfl⟩
  rw [hW2]
  have hBw : Below w.heap.size w w1 := below_then (below_alloc (Below.refl _ _) _) (by rw [alloc_size]; omega) hB
  have HB2 : Below w.heap.size w W2 := by rw [← hW2]; exact below_alloc hBw _
  have hsz : w.heap.size < w1.heap.size := by have := hB.size; rw [alloc_size] at this; omega
  have hrow : W2.heap[w1.heap.size]? = some (.cells #[.string r.name, .bool r0.auto, .bool r0.length, .bool r0.part, .bool r0.below, .bool r0.color, .bool r0.number, .slice r.wa r0.wn r0.wn, .int .i64 r.k, .int .i64 r.n] 163 (0, 0)) := by rw [← hW2]; exact heap_alloc_new _ _
  have hvow : W2.heap[w.heap.size]? = some (.cells #[.int .i64 k, .int .i64 n] 109 (0, 0)) := by
    rw [← hW2]
    have a1 : w1.heap[w.heap.size]? = some (.cells #[.int .i64 k, .int .i64 n] 109 (0, 0)) := (hB.block w.heap.size (by rw [alloc_size]; omega)).trans (heap_alloc_new _ _)
    exact (heap_alloc_old _ _ hsz).trans a1
  obtain ⟨g, hg⟩ : ∃ g, w1.heap.size = g := ⟨_, rfl⟩
  obtain ⟨v, hv⟩ : ∃ v, w.heap.size = v := ⟨_, rfl⟩
  have HBA := Aside0.mk HB2
  rw [hg] at hrow ⊢
  rw [hv] at hvow ⊢
  have HR := Aside0.mk hrow
  have HV := Aside0.mk hvow
  clear hrow hvow hBw HB2 hsz hW2 hS hB hO hE
  have HM : Aside0 (mayV p k n = mayV p k n) := ⟨rfl⟩
  obtain ⟨nm, au, le, pa, be, co, nu, wa, wn, kk, nn⟩ := r0
  have HK : ∀ W, Below W2.heap.size W2 W → (∀ (j : Nat) (u : Value), (#[.string r.name, .bool au, .bool le, .bool pa, .bool be, .bool co, .bool nu, .slice r.wa wn wn, .int .i64 r.k, .int .i64 r.n] : Array Value)[j]? = some u → W.cell? ⟨g, j, none⟩ = some u) ∧ (∀ (j : Nat) (u : Value), (#[.int .i64 k, .int .i64 n] : Array Value)[j]? = some u → W.cell? ⟨v, j, none⟩ = some u) ∧ Aside0 (Below w.heap.size w W) := by
    intro W hW
    refine ⟨fun j u hj => ?_, fun j u hj => ?_, ⟨below_then HBA.out HBA.out.size hW⟩⟩
    · exact (blk_cell ((hW.block g (blk_lt HR.out)).trans HR.out) j).trans hj
    · exact (blk_cell ((hW.block v (blk_lt HV.out)).trans HV.out) j).trans hj
  have HKA := Aside0.mk HK
  clear HK HR HV
  obtain ⟨kt, kv, kb⟩ := HKA.out W2 (Below.refl _ _)
  have t1 := kt 1 _ rfl
  have t2 := kt 2 _ rfl
  have t3 := kt 3 _ rfl
  have t4 := kt 4 _ rfl
  have t5 := kt 5 _ rfl
  have t6 := kt 6 _ rfl
  have t7 := kt 7 _ rfl
  have v0 := kv 0 _ rfl
  have v1 := kv 1 _ rfl
  clear kt kv
  cases be with
  | false =>
    go_upto_region 5 with fail
    by_cases k1 : k = 1
    · subst k1
      cases au with
      | false =>
        go_wp2
        go_ret
        exact ⟨(by first | (simp [mayV, lowV, hr0]; done) | (simp [mayV, lowV, hr0]; omega)), by first | exact kb.out | (rw [← hv]; exact kb.out) | exact pw_below_drewN (kb.out) _ | (rw [← hv]; exact pw_below_drewN (kb.out) _)⟩
      | true =>
        by_cases hn : n = 0
        · subst hn
          go_wp2
          go_ret
          exact ⟨(by first | (simp [mayV, lowV, hr0]; done) | (simp [mayV, lowV, hr0]; omega)), by first | exact kb.out | (rw [← hv]; exact kb.out) | exact pw_below_drewN (kb.out) _ | (rw [← hv]; exact pw_below_drewN (kb.out) _)⟩
        · have e0 : (n == 0) = false := by simp [hn]
          go_wp2
          go_ret
          exact ⟨(by first | (simp [mayV, lowV, hr0, hn]; done) | (simp [mayV, lowV, hr0, hn]; omega)), by first | exact kb.out | (rw [← hv]; exact kb.out) | exact pw_below_drewN (kb.out) _ | (rw [← hv]; exact pw_below_drewN (kb.out) _)⟩
    have f1 : (k == 1) = false := by simp [k1]
    by_cases k2 : k = 2
    · subst k2
      cases le with
      | false =>
        go_wp2; go_quiet (fail); go_wp2
        go_ret
        exact ⟨(by first | (simp [mayV, lowV, hr0]; done) | (simp [mayV, lowV, hr0]; omega)), by first | exact kb.out | (rw [← hv]; exact kb.out) | exact pw_below_drewN (kb.out) _ | (rw [← hv]; exact pw_below_drewN (kb.out) _)⟩
      | true =>
        by_cases ha : (0 : Int) ≤ n
        · have ga : decide ((0 : Int) ≤ n) = true := decide_eq_true ha
          go_wp2; go_region_with (first | (go_at_call 117; refine (most_any _).mono ?_; rintro e W4 ⟨rfl, hB4⟩; have v4 := (HKA.out W4 (below_then (below_drew1 (Below.refl _ _)) (Nat.le_refl _) hB4)).2.1 1 _ rfl))
          all_goals (go_wp2; go_ret; exact ⟨(show _ = Ending.returned (Value.bool (decide (n ≤ 63999999999))) from rfl).trans (by first | (simp [mayV, lowV, hr0, ha]; done) | (simp [mayV, lowV, hr0, ha]; omega)), by first | exact below_then (below_drew1 kb.out) (below_drew1 kb.out).size hB4 | (rw [← hv]; exact below_then (below_drew1 kb.out) (below_drew1 kb.out).size hB4) | exact pw_below_drewN (below_then (below_drew1 kb.out) (below_drew1 kb.out).size hB4) _ | (rw [← hv]; exact pw_below_drewN (below_then (below_drew1 kb.out) (below_drew1 kb.out).size hB4) _)⟩)
        · have ga : decide ((0 : Int) ≤ n) = false := decide_eq_false ha
          go_wp2; go_quiet (fail); go_wp2
          go_ret
          exact ⟨(by first | (simp [mayV, lowV, hr0, ha]; done) | (simp [mayV, lowV, hr0, ha]; omega)), by first | exact kb.out | (rw [← hv]; exact kb.out) | exact pw_below_drewN (kb.out) _ | (rw [← hv]; exact pw_below_drewN (kb.out) _)⟩
    have f2 : (k == 2) = false := by simp [k2]
    by_cases k3 : k = 3
    · subst k3
      cases pa with
      | false =>
        go_wp2; go_quiet (fail); go_wp2
        go_ret
        exact ⟨(by first | (simp [mayV, lowV, hr0]; done) | (simp [mayV, lowV, hr0]; omega)), by first | exact kb.out | (rw [← hv]; exact kb.out) | exact pw_below_drewN (kb.out) _ | (rw [← hv]; exact pw_below_drewN (kb.out) _)⟩
      | true =>
        by_cases ha : (0 : Int) ≤ n
        · have ga : decide ((0 : Int) ≤ n) = true := decide_eq_true ha
          go_wp2; go_region_with (first | (go_at_call 117; refine (most_any _).mono ?_; rintro e W4 ⟨rfl, hB4⟩; have v4 := (HKA.out W4 (below_then (below_drew1 (Below.refl _ _)) (Nat.le_refl _) hB4)).2.1 1 _ rfl))
          all_goals (go_wp2; go_ret; exact ⟨(show _ = Ending.returned (Value.bool (decide (n ≤ 63999999999))) from rfl).trans (by first | (simp [mayV, lowV, hr0, ha]; done) | (simp [mayV, lowV, hr0, ha]; omega)), by first | exact below_then (below_drew1 kb.out) (below_drew1 kb.out).size hB4 | (rw [← hv]; exact below_then (below_drew1 kb.out) (below_drew1 kb.out).size hB4) | exact pw_below_drewN (below_then (below_drew1 kb.out) (below_drew1 kb.out).size hB4) _ | (rw [← hv]; exact pw_below_drewN (below_then (below_drew1 kb.out) (below_drew1 kb.out).size hB4) _)⟩)
        · have ga : decide ((0 : Int) ≤ n) = false := decide_eq_false ha
          go_wp2; go_quiet (fail); go_wp2
          go_ret
          exact ⟨(by first | (simp [mayV, lowV, hr0, ha]; done) | (simp [mayV, lowV, hr0, ha]; omega)), by first | exact kb.out | (rw [← hv]; exact kb.out) | exact pw_below_drewN (kb.out) _ | (rw [← hv]; exact pw_below_drewN (kb.out) _)⟩
    have f3 : (k == 3) = false := by simp [k3]
    by_cases k4 : k = 4
    · subst k4
      cases co with
      | false =>
        go_wp2
        go_ret
        exact ⟨(by first | (simp [mayV, lowV, hr0]; done) | (simp [mayV, lowV, hr0]; omega)), by first | exact kb.out | (rw [← hv]; exact kb.out) | exact pw_below_drewN (kb.out) _ | (rw [← hv]; exact pw_below_drewN (kb.out) _)⟩
      | true =>
        by_cases ha : (0 : Int) ≤ n
        · have ga : decide ((0 : Int) ≤ n) = true := decide_eq_true ha
          go_wp2
          go_ret
          exact ⟨(by first | (simp [mayV, lowV, hr0, ha]; done) | (simp [mayV, lowV, hr0, ha]; omega)), by first | exact kb.out | (rw [← hv]; exact kb.out) | exact pw_below_drewN (kb.out) _ | (rw [← hv]; exact pw_below_drewN (kb.out) _)⟩
        · have ga : decide ((0 : Int) ≤ n) = false := decide_eq_false ha
          go_wp2
          go_ret
          exact ⟨(by first | (simp [mayV, lowV, hr0, ha]; done) | (simp [mayV, lowV, hr0, ha]; omega)), by first | exact kb.out | (rw [← hv]; exact kb.out) | exact pw_below_drewN (kb.out) _ | (rw [← hv]; exact pw_below_drewN (kb.out) _)⟩
    have f4 : (k == 4) = false := by simp [k4]
    by_cases k5 : k = 5
    · subst k5
      by_cases ha : (0 : Int) ≤ n
      · have ga : decide ((0 : Int) ≤ n) = true := decide_eq_true ha
        by_cases hc : n < (wn : Int)
        · have gc : decide (n < (wn : Int)) = true := decide_eq_true hc
          go_wp2
          go_ret
          exact ⟨(by first | (simp [mayV, lowV, hr0, ha, hc]; done) | (simp [mayV, lowV, hr0, ha, hc]; omega)), by first | exact kb.out | (rw [← hv]; exact kb.out) | exact pw_below_drewN (kb.out) _ | (rw [← hv]; exact pw_below_drewN (kb.out) _)⟩
        · have gc : decide (n < (wn : Int)) = false := decide_eq_false hc
          go_wp2
          go_ret
          exact ⟨(by first | (simp [mayV, lowV, hr0, ha, hc]; done) | (simp [mayV, lowV, hr0, ha, hc]; omega)), by first | exact kb.out | (rw [← hv]; exact kb.out) | exact pw_below_drewN (kb.out) _ | (rw [← hv]; exact pw_below_drewN (kb.out) _)⟩
      · have ga : decide ((0 : Int) ≤ n) = false := decide_eq_false ha
        go_wp2
        go_ret
        exact ⟨(by first | (simp [mayV, lowV, hr0, ha]; done) | (simp [mayV, lowV, hr0, ha]; omega)), by first | exact kb.out | (rw [← hv]; exact kb.out) | exact pw_below_drewN (kb.out) _ | (rw [← hv]; exact pw_below_drewN (kb.out) _)⟩
    have f5 : (k == 5) = false := by simp [k5]
    by_cases k6 : k = 6
    · subst k6
      cases nu with
      | false =>
        go_wp2; go_quiet (fail); go_wp2
        go_ret
        exact ⟨(by first | (simp [mayV, lowV, hr0]; done) | (simp [mayV, lowV, hr0]; omega)), by first | exact kb.out | (rw [← hv]; exact kb.out) | exact pw_below_drewN (kb.out) _ | (rw [← hv]; exact pw_below_drewN (kb.out) _)⟩
      | true =>
        by_cases ha : (0 : Int) ≤ n
        · have ga : decide ((0 : Int) ≤ n) = true := decide_eq_true ha
          go_wp2; go_region_with (first | (go_at_call 117; refine (most_any _).mono ?_; rintro e W4 ⟨rfl, hB4⟩; have v4 := (HKA.out W4 (below_then (below_drew1 (Below.refl _ _)) (Nat.le_refl _) hB4)).2.1 1 _ rfl))
          all_goals (go_wp2; go_ret; exact ⟨(show _ = Ending.returned (Value.bool (decide (n ≤ 63999999999))) from rfl).trans (by first | (simp [mayV, lowV, hr0, ha]; done) | (simp [mayV, lowV, hr0, ha]; omega)), by first | exact below_then (below_drew1 kb.out) (below_drew1 kb.out).size hB4 | (rw [← hv]; exact below_then (below_drew1 kb.out) (below_drew1 kb.out).size hB4) | exact pw_below_drewN (below_then (below_drew1 kb.out) (below_drew1 kb.out).size hB4) _ | (rw [← hv]; exact pw_below_drewN (below_then (below_drew1 kb.out) (below_drew1 kb.out).size hB4) _)⟩)
        · have ga : decide ((0 : Int) ≤ n) = false := decide_eq_false ha
          go_wp2; go_quiet (fail); go_wp2
          go_ret
          exact ⟨(by first | (simp [mayV, lowV, hr0, ha]; done) | (simp [mayV, lowV, hr0, ha]; omega)), by first | exact kb.out | (rw [← hv]; exact kb.out) | exact pw_below_drewN (kb.out) _ | (rw [← hv]; exact pw_below_drewN (kb.out) _)⟩
    have f6 : (k == 6) = false := by simp [k6]
    go_wp2
    go_ret
    exact ⟨(by first | (simp [mayV, lowV, hr0, k1, k2, k3, k4, k5, k6]; done) | (simp [mayV, lowV, hr0, k1, k2, k3, k4, k5, k6]; omega)), by first | exact kb.out | (rw [← hv]; exact kb.out) | exact pw_below_drewN (kb.out) _ | (rw [← hv]; exact pw_below_drewN (kb.out) _)⟩
  | true =>
    go_upto_region 5 with (first | (go_at_call 117; refine (most_any _).mono ?_; rintro e W3 ⟨rfl, hB3⟩))
    clear t1 t2 t3 t4 t5 t6 t7 v0 v1 kb
    obtain ⟨kt, kv, kb⟩ := HKA.out W3 hB3
    have t1 := kt 1 _ rfl
    have t2 := kt 2 _ rfl
    have t3 := kt 3 _ rfl
    have t4 := kt 4 _ rfl
    have t5 := kt 5 _ rfl
    have t6 := kt 6 _ rfl
    have t7 := kt 7 _ rfl
    have v0 := kv 0 _ rfl
    have v1 := kv 1 _ rfl
    clear kt kv
    by_cases k1 : k = 1
    · subst k1
      cases au with
      | false =>
        go_wp2
        go_ret
        exact ⟨(by first | (simp [mayV, lowV, hr0]; done) | (simp [mayV, lowV, hr0]; omega)), by first | exact kb.out | (rw [← hv]; exact kb.out) | exact pw_below_drewN (kb.out) _ | (rw [← hv]; exact pw_below_drewN (kb.out) _)⟩
      | true =>
        by_cases hn : n = 0
        · subst hn
          go_wp2
          go_ret
          exact ⟨(by first | (simp [mayV, lowV, hr0]; done) | (simp [mayV, lowV, hr0]; omega)), by first | exact kb.out | (rw [← hv]; exact kb.out) | exact pw_below_drewN (kb.out) _ | (rw [← hv]; exact pw_below_drewN (kb.out) _)⟩
        · have e0 : (n == 0) = false := by simp [hn]
          go_wp2
          go_ret
          exact ⟨(by first | (simp [mayV, lowV, hr0, hn]; done) | (simp [mayV, lowV, hr0, hn]; omega)), by first | exact kb.out | (rw [← hv]; exact kb.out) | exact pw_below_drewN (kb.out) _ | (rw [← hv]; exact pw_below_drewN (kb.out) _)⟩
    have f1 : (k == 1) = false := by simp [k1]
    by_cases k2 : k = 2
    · subst k2
      cases le with
      | false =>
        go_wp2; go_quiet (fail); go_wp2
        go_ret
        exact ⟨(by first | (simp [mayV, lowV, hr0]; done) | (simp [mayV, lowV, hr0]; omega)), by first | exact kb.out | (rw [← hv]; exact kb.out) | exact pw_below_drewN (kb.out) _ | (rw [← hv]; exact pw_below_drewN (kb.out) _)⟩
      | true =>
        by_cases ha : (-63999999999 : Int) ≤ n
        · have ga : decide ((-63999999999 : Int) ≤ n) = true := decide_eq_true ha
          go_wp2; go_region_with (first | (go_at_call 117; refine (most_any _).mono ?_; rintro e W4 ⟨rfl, hB4⟩; have v4 := (HKA.out W4 (below_then (below_drew1 hB3) (below_drew1 hB3).size hB4)).2.1 1 _ rfl))
          all_goals (go_wp2; go_ret; exact ⟨(show _ = Ending.returned (Value.bool (decide (n ≤ 63999999999))) from rfl).trans (by first | (simp [mayV, lowV, hr0, ha]; done) | (simp [mayV, lowV, hr0, ha]; omega)), by first | exact below_then (below_drew1 kb.out) (below_drew1 kb.out).size hB4 | (rw [← hv]; exact below_then (below_drew1 kb.out) (below_drew1 kb.out).size hB4) | exact pw_below_drewN (below_then (below_drew1 kb.out) (below_drew1 kb.out).size hB4) _ | (rw [← hv]; exact pw_below_drewN (below_then (below_drew1 kb.out) (below_drew1 kb.out).size hB4) _)⟩)
        · have ga : decide ((-63999999999 : Int) ≤ n) = false := decide_eq_false ha
          go_wp2; go_quiet (fail); go_wp2
          go_ret
          exact ⟨(by first | (simp [mayV, lowV, hr0, ha]; done) | (simp [mayV, lowV, hr0, ha]; omega)), by first | exact kb.out | (rw [← hv]; exact kb.out) | exact pw_below_drewN (kb.out) _ | (rw [← hv]; exact pw_below_drewN (kb.out) _)⟩
    have f2 : (k == 2) = false := by simp [k2]
    by_cases k3 : k = 3
    · subst k3
      cases pa with
      | false =>
        go_wp2; go_quiet (fail); go_wp2
        go_ret
        exact ⟨(by first | (simp [mayV, lowV, hr0]; done) | (simp [mayV, lowV, hr0]; omega)), by first | exact kb.out | (rw [← hv]; exact kb.out) | exact pw_below_drewN (kb.out) _ | (rw [← hv]; exact pw_below_drewN (kb.out) _)⟩
      | true =>
        by_cases ha : (0 : Int) ≤ n
        · have ga : decide ((0 : Int) ≤ n) = true := decide_eq_true ha
          go_wp2; go_region_with (first | (go_at_call 117; refine (most_any _).mono ?_; rintro e W4 ⟨rfl, hB4⟩; have v4 := (HKA.out W4 (below_then (below_drew1 hB3) (below_drew1 hB3).size hB4)).2.1 1 _ rfl))
          all_goals (go_wp2; go_ret; exact ⟨(show _ = Ending.returned (Value.bool (decide (n ≤ 63999999999))) from rfl).trans (by first | (simp [mayV, lowV, hr0, ha]; done) | (simp [mayV, lowV, hr0, ha]; omega)), by first | exact below_then (below_drew1 kb.out) (below_drew1 kb.out).size hB4 | (rw [← hv]; exact below_then (below_drew1 kb.out) (below_drew1 kb.out).size hB4) | exact pw_below_drewN (below_then (below_drew1 kb.out) (below_drew1 kb.out).size hB4) _ | (rw [← hv]; exact pw_below_drewN (below_then (below_drew1 kb.out) (below_drew1 kb.out).size hB4) _)⟩)
        · have ga : decide ((0 : Int) ≤ n) = false := decide_eq_false ha
          go_wp2; go_quiet (fail); go_wp2
          go_ret
          exact ⟨(by first | (simp [mayV, lowV, hr0, ha]; done) | (simp [mayV, lowV, hr0, ha]; omega)), by first | exact kb.out | (rw [← hv]; exact kb.out) | exact pw_below_drewN (kb.out) _ | (rw [← hv]; exact pw_below_drewN (kb.out) _)⟩
    have f3 : (k == 3) = false := by simp [k3]
    by_cases k4 : k = 4
    · subst k4
      cases co with
      | false =>
        go_wp2
        go_ret
        exact ⟨(by first | (simp [mayV, lowV, hr0]; done) | (simp [mayV, lowV, hr0]; omega)), by first | exact kb.out | (rw [← hv]; exact kb.out) | exact pw_below_drewN (kb.out) _ | (rw [← hv]; exact pw_below_drewN (kb.out) _)⟩
      | true =>
        by_cases ha : (0 : Int) ≤ n
        · have ga : decide ((0 : Int) ≤ n) = true := decide_eq_true ha
          go_wp2
          go_ret
          exact ⟨(by first | (simp [mayV, lowV, hr0, ha]; done) | (simp [mayV, lowV, hr0, ha]; omega)), by first | exact kb.out | (rw [← hv]; exact kb.out) | exact pw_below_drewN (kb.out) _ | (rw [← hv]; exact pw_below_drewN (kb.out) _)⟩
        · have ga : decide ((0 : Int) ≤ n) = false := decide_eq_false ha
          go_wp2
          go_ret
          exact ⟨(by first | (simp [mayV, lowV, hr0, ha]; done) | (simp [mayV, lowV, hr0, ha]; omega)), by first | exact kb.out | (rw [← hv]; exact kb.out) | exact pw_below_drewN (kb.out) _ | (rw [← hv]; exact pw_below_drewN (kb.out) _)⟩
    have f4 : (k == 4) = false := by simp [k4]
    by_cases k5 : k = 5
    · subst k5
      by_cases ha : (0 : Int) ≤ n
      · have ga : decide ((0 : Int) ≤ n) = true := decide_eq_true ha
        by_cases hc : n < (wn : Int)
        · have gc : decide (n < (wn : Int)) = true := decide_eq_true hc
          go_wp2
          go_ret
          exact ⟨(by first | (simp [mayV, lowV, hr0, ha, hc]; done) | (simp [mayV, lowV, hr0, ha, hc]; omega)), by first | exact kb.out | (rw [← hv]; exact kb.out) | exact pw_below_drewN (kb.out) _ | (rw [← hv]; exact pw_below_drewN (kb.out) _)⟩
        · have gc : decide (n < (wn : Int)) = false := decide_eq_false hc
          go_wp2
          go_ret
          exact ⟨(by first | (simp [mayV, lowV, hr0, ha, hc]; done) | (simp [mayV, lowV, hr0, ha, hc]; omega)), by first | exact kb.out | (rw [← hv]; exact kb.out) | exact pw_below_drewN (kb.out) _ | (rw [← hv]; exact pw_below_drewN (kb.out) _)⟩
      · have ga : decide ((0 : Int) ≤ n) = false := decide_eq_false ha
        go_wp2
        go_ret
        exact ⟨(by first | (simp [mayV, lowV, hr0, ha]; done) | (simp [mayV, lowV, hr0, ha]; omega)), by first | exact kb.out | (rw [← hv]; exact kb.out) | exact pw_below_drewN (kb.out) _ | (rw [← hv]; exact pw_below_drewN (kb.out) _)⟩
    have f5 : (k == 5) = false := by simp [k5]
    by_cases k6 : k = 6
    · subst k6
      cases nu with
      | false =>
        go_wp2; go_quiet (fail); go_wp2
        go_ret
        exact ⟨(by first | (simp [mayV, lowV, hr0]; done) | (simp [mayV, lowV, hr0]; omega)), by first | exact kb.out | (rw [← hv]; exact kb.out) | exact pw_below_drewN (kb.out) _ | (rw [← hv]; exact pw_below_drewN (kb.out) _)⟩
      | true =>
        by_cases ha : (-63999999999 : Int) ≤ n
        · have ga : decide ((-63999999999 : Int) ≤ n) = true := decide_eq_true ha
          go_wp2; go_region_with (first | (go_at_call 117; refine (most_any _).mono ?_; rintro e W4 ⟨rfl, hB4⟩; have v4 := (HKA.out W4 (below_then (below_drew1 hB3) (below_drew1 hB3).size hB4)).2.1 1 _ rfl))
          all_goals (go_wp2; go_ret; exact ⟨(show _ = Ending.returned (Value.bool (decide (n ≤ 63999999999))) from rfl).trans (by first | (simp [mayV, lowV, hr0, ha]; done) | (simp [mayV, lowV, hr0, ha]; omega)), by first | exact below_then (below_drew1 kb.out) (below_drew1 kb.out).size hB4 | (rw [← hv]; exact below_then (below_drew1 kb.out) (below_drew1 kb.out).size hB4) | exact pw_below_drewN (below_then (below_drew1 kb.out) (below_drew1 kb.out).size hB4) _ | (rw [← hv]; exact pw_below_drewN (below_then (below_drew1 kb.out) (below_drew1 kb.out).size hB4) _)⟩)
        · have ga : decide ((-63999999999 : Int) ≤ n) = false := decide_eq_false ha
          go_wp2; go_quiet (fail); go_wp2
          go_ret
          exact ⟨(by first | (simp [mayV, lowV, hr0, ha]; done) | (simp [mayV, lowV, hr0, ha]; omega)), by first | exact kb.out | (rw [← hv]; exact kb.out) | exact pw_below_drewN (kb.out) _ | (rw [← hv]; exact pw_below_drewN (kb.out) _)⟩
    have f6 : (k == 6) = false := by simp [k6]
    go_wp2
    go_ret
    exact ⟨(by first | (simp [mayV, lowV, hr0, k1, k2, k3, k4, k5, k6]; done) | (simp [mayV, lowV, hr0, k1, k2, k3, k4, k5, k6]; omega)), by first | exact kb.out | (rw [← hv]; exact kb.out) | exact pw_below_drewN (kb.out) _ | (rw [← hv]; exact pw_below_drewN (kb.out) _)⟩
end Go.Proofs.Val
set_option linter.unusedVariables false
set_option linter.unusedSimpArgs false
namespace Go.Proofs.Val
open Go.RowKit Go.Proofs Go.Proofs.YtolfpgccebdlpaaGreatDoorW.PrintWords
/-- the number of a property, 0 if it is none -/
def cl (p : Int) : Nat := if 1 ≤ p ∧ p ≤ 26 then p.toNat else 0
theorem cl_in {p : Int} (h1 : 1 ≤ p) (h2 : p ≤ 26) : cl p = p.toNat := if_pos ⟨h1, h2⟩
theorem cl_out {p : Int} (h : ¬ (1 ≤ p ∧ p ≤ 26)) : cl p = 0 := if_neg h
theorem cl_le (p : Int) : cl p ≤ 26 := by unfold cl; split <;> omega
def wordsP (p : Nat) : List ByteArray :=
  if p = 1 then [⟨#[98, 108, 111, 99, 107]⟩, ⟨#[105, 110, 108, 105, 110, 101]⟩, ⟨#[102, 108, 101, 120]⟩, ⟨#[110, 111, 110, 101]⟩]
  else if p = 19 then [⟨#[108, 101, 102, 116]⟩, ⟨#[99, 101, 110, 116, 101, 114]⟩, ⟨#[114, 105, 103, 104, 116]⟩]
  else if p = 22 then [⟨#[114, 111, 119]⟩, ⟨#[99, 111, 108, 117, 109, 110]⟩]
  else if p = 23 then [⟨#[115, 116, 97, 114, 116]⟩, ⟨#[99, 101, 110, 116, 101, 114]⟩, ⟨#[101, 110, 100]⟩, ⟨#[98, 101, 116, 119, 101, 101, 110]⟩]
  else []
/-- a property's sort, its words in whatever row -/
def recA (p : Nat) (wa : Option Addr) : SortRec := { rec0 p with wa := wa }
structure WordsIn (w : World) (wa : Option Addr) (l : List ByteArray) : Prop where
  at_ : l = [] ∨ ∃ b, wa = some ⟨b, 0, none⟩ ∧ ∀ j, j < l.length → w.cell? ⟨b, 0 + j, none⟩ = some (.string (l.getD j ByteArray.empty))
theorem WordsIn.below {w w' : World} {wa : Option Addr} {l : List ByteArray} (h : WordsIn w wa l) (hb : Below w.heap.size w w') : WordsIn w' wa l := by
  rcases h.at_ with h | ⟨b, e, h⟩
  · exact ⟨.inl h⟩
  · exact ⟨.inr ⟨b, e, fun j hj => (hb.cell (World.block_lt_of_cell? _ _ (h j hj))).trans (h j hj)⟩⟩
theorem wordsP_len (p : Nat) (h : p ≤ 26) : (rec0 p).wn = (wordsP p).length := by
  by_cases h0 : p = 0
  · subst h0; rfl
  · rcases cases26 (by omega) h with rfl | rfl | rfl | rfl | rfl | rfl | rfl | rfl | rfl | rfl | rfl | rfl | rfl | rfl | rfl | rfl | rfl | rfl | rfl | rfl | rfl | rfl | rfl | rfl | rfl | rfl <;> rfl
theorem words_row {W : World} {b : Nat} {l : List (List UInt8)} (h : WordRow' W b 9 l) : ∀ j, j < (l.map fun s => (⟨s.toArray⟩ : ByteArray)).length → W.cell? ⟨b, 0 + j, none⟩ = some (.string ((l.map fun s => (⟨s.toArray⟩ : ByteArray)).getD j ByteArray.empty)) := fun j hj => by
  rw [List.length_map] at hj
  rw [Nat.zero_add, cell_of_row _ _ _ _ _ _ h]
  simp [List.getD, List.getElem?_eq_getElem hj]
theorem rec_words {w W : World} {b1 b2 b3 b4 : Nat} (p : Nat) (h1 : 1 ≤ p) (h2 : p ≤ 26) (h : SortWords w W b1 b2 b3 b4) :
    recOf p b1 b2 b3 b4 = recA p (recOf p b1 b2 b3 b4).wa ∧ WordsIn W (recOf p b1 b2 b3 b4).wa (wordsP p) := by
  have r1 := words_row h.r1
  have r2 := words_row h.r2
  have r3 := words_row h.r3
  have r4 := words_row h.r4
  rcases cases26 h1 h2 with rfl | rfl | rfl | rfl | rfl | rfl | rfl | rfl | rfl | rfl | rfl | rfl | rfl | rfl | rfl | rfl | rfl | rfl | rfl | rfl | rfl | rfl | rfl | rfl | rfl | rfl
  all_goals refine ⟨rfl, ⟨?_⟩⟩
  all_goals first | exact .inl rfl | exact .inr ⟨_, rfl, r1⟩ | exact .inr ⟨_, rfl, r2⟩ | exact .inr ⟨_, rfl, r3⟩ | exact .inr ⟨_, rfl, r4⟩
set_option maxHeartbeats 1000000 in
theorem ofP (p : Int) (w : World) :
    Calls Tryz.prog 116 #[.int .i64 p] w fun e w' => ∃ wa, e = .returned (.tuple #[recV (recA (cl p) wa), .bool (decide (1 ≤ p ∧ p ≤ 26))]) ∧ WordsIn w' wa (wordsP (cl p)) ∧ Below w.heap.size w w' := by
  by_cases h : 1 ≤ p ∧ p ≤ 26
  · obtain ⟨q, rfl⟩ : ∃ q : Nat, p = (q : Int) := ⟨p.toNat, by omega⟩
    rw [cl_in h.1 h.2, decide_eq_true h, Int.toNat_natCast]
    refine (ofC q (by omega) (by omega) w).mono ?_
    rintro e w' ⟨b1, b2, b3, b4, rfl, hw, hb⟩
    obtain ⟨r1, r2⟩ := rec_words q (by omega) (by omega) hw
    exact ⟨_, by rw [← r1], r2, hb⟩
  · rw [cl_out h, decide_eq_false h]
    by_cases h1 : p < 1
    · have d1 : decide (p < 1) = true := decide_eq_true h1
      clear h
      go_enter Tryz.func116, Tryz.ntmps116
      go_wp2
      refine bodyPost_ret (v := .tuple #[recV (recA 0 none), .bool false]) (by simp [results, Tryz.results116, go_sem, recA, rec0, recOf, recs]) rfl ⟨none, rfl, ⟨.inl rfl⟩, (Below.refl _ _).alloc (Nat.le_refl _) _⟩
    · have d1 : decide (p < 1) = false := decide_eq_false h1
      have d2 : decide (27 ≤ p) = true := decide_eq_true (by omega)
      clear h
      go_enter Tryz.func116, Tryz.ntmps116
      go_wp2
      refine bodyPost_ret (v := .tuple #[recV (recA 0 none), .bool false]) (by simp [results, Tryz.results116, go_sem, recA, rec0, recOf, recs]) rfl ⟨none, rfl, ⟨.inl rfl⟩, (Below.refl _ _).alloc (Nat.le_refl _) _⟩
def nameP (p : Int) : ByteArray := (rec0 (cl p)).name
set_option maxHeartbeats 1000000 in
theorem nameC (p : Int) (w : World) : Calls Tryz.prog 76 #[.int .i64 p] w fun e w' => e = .returned (.string (nameP p)) ∧ Below w.heap.size w w' := by
  go_enter Tryz.func76, Tryz.ntmps76
  go_wp2_with (go_at_call 116; refine (ofP p _).mono ?_; rintro e w' ⟨wa, rfl, hw, hb⟩; clear hw)
  go_ret
  exact ⟨rfl, hb.alloc hb.size _⟩
/-- the names of the 26 properties -/
def namesL : List ByteArray := (List.range 26).map fun k => (rec0 (k + 1)).name
def propI (s : ByteArray) : Int := Lib.idxOfS namesL s
def propV (s : ByteArray) : Int := max (propI s + 1) 0
theorem ba_eq (s t : ByteArray) : (s.toList == t.toList) = decide (s = t) := by
  by_cases h : s = t
  · rw [decide_eq_true h, h]; simp
  · rw [decide_eq_false h]
    refine beq_eq_false_iff_ne.2 fun e => h ?_
    rw [Lib.toList_data, Lib.toList_data] at e
    cases s; cases t
    exact congrArg ByteArray.mk (Array.toList_inj.1 e)
set_option maxHeartbeats 1000000 in
theorem prop1C (r : SortRec) (s : ByteArray) (nb : Nat) (w : World) (hn : w.cell? ⟨nb, 0, none⟩ = some (.string s)) :
    Calls Tryz.prog 173 #[recV r, .pointer (some ⟨nb, 0, none⟩)] w fun e w' => e = .returned (.bool (decide (r.name = s))) ∧ Below w.heap.size w w' := by
  have hlt := World.block_lt_of_cell? _ _ hn
  go_enter Tryz.func173, Tryz.ntmps173
  go_wp2
  go_ret
  exact ⟨by rw [← ba_eq]; rfl, below_alloc (Below.refl _ _) _⟩
theorem at_SA (q : Nat) (hq : q < 26) (b1 b2 b3 b4 : Nat) (g : Nat) (w : World) (h : w.heap[g]? = some (.cells (SA 4 b1 b2 b3 b4) 191 (0, 0))) :
    w.cell? ⟨g, 10 + q * 10, none⟩ = some (.string (recOf (q + 1) b1 b2 b3 b4).name) ∧ w.cell? ⟨g, 10 + q * 10 + 1, none⟩ = some (.bool (recOf (q + 1) b1 b2 b3 b4).auto) ∧ w.cell? ⟨g, 10 + q * 10 + 2, none⟩ = some (.bool (recOf (q + 1) b1 b2 b3 b4).length) ∧ w.cell? ⟨g, 10 + q * 10 + 3, none⟩ = some (.bool (recOf (q + 1) b1 b2 b3 b4).part) ∧ w.cell? ⟨g, 10 + q * 10 + 4, none⟩ = some (.bool (recOf (q + 1) b1 b2 b3 b4).below) ∧ w.cell? ⟨g, 10 + q * 10 + 5, none⟩ = some (.bool (recOf (q + 1) b1 b2 b3 b4).color) ∧ w.cell? ⟨g, 10 + q * 10 + 6, none⟩ = some (.bool (recOf (q + 1) b1 b2 b3 b4).number) ∧ w.cell? ⟨g, 10 + q * 10 + 7, none⟩ = some (.slice (recOf (q + 1) b1 b2 b3 b4).wa (recOf (q + 1) b1 b2 b3 b4).wn (recOf (q + 1) b1 b2 b3 b4).wn) ∧ w.cell? ⟨g, 10 + q * 10 + 8, none⟩ = some (.int .i64 (recOf (q + 1) b1 b2 b3 b4).k) ∧ w.cell? ⟨g, 10 + q * 10 + 9, none⟩ = some (.int .i64 (recOf (q + 1) b1 b2 b3 b4).n) := by
  have hc : ∀ o, w.cell? ⟨g, o, none⟩ = (SA 4 b1 b2 b3 b4)[o]? := fun o => cell_of_row _ _ _ _ _ _ h
  simp only [hc]
  rcases cases26 (by omega : 1 ≤ q + 1) (by omega) with h | h | h | h | h | h | h | h | h | h | h | h | h | h | h | h | h | h | h | h | h | h | h | h | h | h
  all_goals
    obtain rfl := Nat.succ.inj h
    exact ⟨by kernel_rfl, by kernel_rfl, by kernel_rfl, by kernel_rfl, by kernel_rfl, by kernel_rfl, by kernel_rfl, by kernel_rfl, by kernel_rfl, by kernel_rfl⟩
theorem name_recOf (p b1 b2 b3 b4 : Nat) (h1 : 1 ≤ p) (h2 : p ≤ 26) : (recOf p b1 b2 b3 b4).name = (rec0 p).name := by
  rcases cases26 h1 h2 with rfl | rfl | rfl | rfl | rfl | rfl | rfl | rfl | rfl | rfl | rfl | rfl | rfl | rfl | rfl | rfl | rfl | rfl | rfl | rfl | rfl | rfl | rfl | rfl | rfl | rfl <;> rfl
theorem names_len : namesL.length = 26 := rfl
theorem names_at (q : Nat) (h : q < 26) : namesL.getD q ByteArray.empty = (rec0 (q + 1)).name := by
  unfold namesL
  rw [List.getD, List.getElem?_map, List.getElem?_range h]
  rfl
set_option maxHeartbeats 2000000 in
set_option maxRecDepth 100000 in
theorem index38 (s : ByteArray) (g nb b1 b2 b3 b4 : Nat) (w : World) (hg : w.heap[g]? = some (.cells (SA 4 b1 b2 b3 b4) 191 (0, 0))) (hn : w.cell? ⟨nb, 0, none⟩ = some (.string s)) :
    Calls Tryz.prog 172 #[.slice (some ⟨g, 10, none⟩) 26 26, .func (.func 173) #[] #[.pointer (some ⟨nb, 0, none⟩)]] w fun e w' => e = .returned (.int .i64 (propI s)) ∧ Below w.heap.size w w' := by
  have lg := lt_get hg
  have ln := World.block_lt_of_cell? _ _ hn
  go_enter Tryz.func172, Tryz.ntmps172
  go_wp2
  have HG := Lib.hid (And.intro hg hn)
  clear hg hn
  go_loopw [5, 8, 9, 10, 11, 12, 13, 14, 15, 16, 18] (fun _ i _ _ _ _ _ _ _ _ _ wr => ∃ k : Nat, k ≤ 26 ∧ i = .int .i64 k ∧ Hid (∀ j, j < k → namesL.getD j ByteArray.empty ≠ s) ∧ Hid (Below w.heap.size w wr)) (fun _ i _ _ _ _ _ _ _ _ _ _ => 26 - (RowKit.intOf i).toNat)
  case atStart => exact ⟨0, by omega, rfl, Lib.hid (fun j hj => by omega), Lib.hid (Below.refl _ _)⟩
  case round =>
    obtain ⟨k, hk, rfl, N1, B1⟩ := hrel
    by_cases hlt : k < 26
    · have g1 : decide ((k : Int) < 26) = true := decide_eq_true (by omega)
      have hg2 : wr.heap[g]? = some (.cells (SA 4 b1 b2 b3 b4) 191 (0, 0)) := below_of_row B1.out HG.out.1 lg
      have hn2 : wr.cell? ⟨nb, 0, none⟩ = some (.string s) := (B1.out.cell (p := ⟨nb, 0, none⟩) ln).trans HG.out.2
      obtain ⟨a0, a1, a2, a3, a4, a5, a6, a7, a8, a9⟩ := at_SA k hlt b1 b2 b3 b4 g wr hg2
      have hx := prop1C (recOf (k + 1) b1 b2 b3 b4) s nb wr hn2
      have hnm := name_recOf (k + 1) b1 b2 b3 b4 (by omega) (by omega)
      have hat := names_at k hlt
      rw [← hnm] at hat
      clear hg2 hn2 hnm
      generalize recOf (k + 1) b1 b2 b3 b4 = r at a0 a1 a2 a3 a4 a5 a6 a7 a8 a9 hx hat
      by_cases he : r.name = s
      · rw [decide_eq_true he] at hx
        have HE := Lib.hid (show propI s = (k : Int) from by
          have := Lib.idxFromS_hit s namesL k 0 (by rw [names_len]; exact hlt) (hat.trans he) N1.out
          rw [Nat.zero_add] at this
          exact this)
        clear he hat
        go_wp2_with (first | (go_at_call 173; refine (hx).mono ?_; rintro e w' ⟨rfl, hB⟩))
        go_ret
        exact ⟨(show _ = Ending.returned (Value.int .i64 (k : Int)) from rfl).trans (by rw [HE.out]), below_then B1.out B1.out.size hB⟩
      · rw [decide_eq_false he] at hx
        have HE := Lib.hid (show namesL.getD k ByteArray.empty ≠ s from by rw [hat]; exact he)
        clear he hat
        go_wp2_with (first | (go_at_call 173; refine (hx).mono ?_; rintro e w' ⟨rfl, hB⟩))
        exact ⟨⟨k + 1, by omega, by go_num, Lib.hid (fun j hj => by
          by_cases e : j = k
          · rw [e]; exact HE.out
          · exact N1.out j (by omega)), Lib.hid (below_then B1.out B1.out.size hB)⟩, by simp [RowKit.intOf]; omega⟩
    · obtain rfl : k = 26 := by omega
      have HE := Lib.hid (show propI s = -1 from Lib.idxFromS_miss s namesL 0 (by rw [names_len]; exact N1.out))
      go_wp2
      go_ret
      exact ⟨(show _ = Ending.returned (Value.int .i64 (-1)) from rfl).trans (by rw [HE.out]), B1.out⟩
theorem idxFrom_bd (x : ByteArray) : ∀ (zs : List ByteArray) (i : Nat), Lib.idxFromS zs x i = -1 ∨ ((i : Int) ≤ Lib.idxFromS zs x i ∧ Lib.idxFromS zs x i < (i : Int) + zs.length)
  | [], i => by left; simp [Lib.idxFromS]
  | z :: zs, i => by
    by_cases h : z = x
    · right; simp [Lib.idxFromS, h]; omega
    · have := idxFrom_bd x zs (i + 1)
      simp only [Lib.idxFromS, if_neg h, List.length_cons]
      omega
theorem propI_bd (s : ByteArray) : -1 ≤ propI s ∧ propI s < 26 := by
  have := idxFrom_bd s namesL 0
  rw [names_len] at this
  unfold propI Lib.idxOfS
  omega
set_option maxHeartbeats 2000000 in
set_option maxRecDepth 100000 in
theorem propC (s : ByteArray) (w : World) : Calls Tryz.prog 143 #[.string s] w fun e w' => e = .returned (.int .i64 (propV s)) ∧ Below w.heap.size w w' := by
  go_enter Tryz.func143, Tryz.ntmps143
  go_upto_region 2 with (first
    | (go_at_call 147; refine (sortsC _).mono ?_; rintro e w1 ⟨b1, b2, b3, b4, rfl, hS, hb1⟩; clear hS)
    | (refine wpList_store_row rfl 191 _ _ rfl _ (SA 4 b1 b2 b3 b4) rfl rfl 191 z95 (heap_alloc_at _ _ ?_) (info95.trans (congrArg some (size_SA 4 b1 b2 b3 b4 (by omega)).symm)) (size_z95.trans (size_SA 4 b1 b2 b3 b4 (by omega)).symm) (all_SA4 _ _ _ _) ?_; · simp))
  obtain ⟨V, hV⟩ : ∃ V, V = (w1.alloc (Obj.cells Tryz.zeroCells191 191)).setRow w1.heap.size (SA 4 b1 b2 b3 b4) := ⟨_, rfl⟩
  have hsz : w.heap.size < w1.heap.size := by have := hb1.size; rw [alloc_size] at this; omega
  have hg : V.heap[w1.heap.size]? = some (.cells (SA 4 b1 b2 b3 b4) 191 (0, 0)) := by rw [hV]; exact setRow_heap _ _ _ _ _ _ (heap_alloc_new _ _)
  have hn : V.cell? ⟨w.heap.size, 0, none⟩ = some (.string s) := by
    have h0 : (w.alloc (Obj.cells #[.string s] 9)).heap[w.heap.size]? = some (.cells #[.string s] 9 (0, 0)) := heap_alloc_new _ _
    have h1 := below_of_row hb1 h0 (by rw [alloc_size]; omega)
    have h2 : V.heap[w.heap.size]? = some (.cells #[.string s] 9 (0, 0)) := by
      rw [hV, setRow_other _ _ _ _ (by omega), alloc_get, if_neg (by omega)]
      exact h1
    exact (cell_of_row V _ 0 _ _ _ h2).trans rfl
  have p1 : Below w.heap.size w w1 := ((Below.refl _ _).alloc (Nat.le_refl _) _).trans (hb1.mono (by rw [alloc_size]; omega))
  have pV : Below w.heap.size w V := by rw [hV]; exact below_setRow (p1.alloc p1.size _) _ _ p1.size
  rw [← hV]
  clear hV hb1
  have hx := index38 s w1.heap.size w.heap.size b1 b2 b3 b4 V hg hn
  have lg := lt_get hg
  clear hg hn
  obtain ⟨i, hi⟩ : ∃ i, propI s = i := ⟨_, rfl⟩
  have hb : -1 ≤ i ∧ i < 26 := by rw [← hi]; exact propI_bd s
  have HV := Lib.hid (show propV s = max (i + 1) 0 by unfold propV; rw [hi])
  rw [hi] at hx
  clear hi
  go_wp2_with (first | (go_at_call 172; refine (hx).mono ?_; rintro e w' ⟨rfl, hB⟩))
  go_ret
  exact ⟨(show _ = Ending.returned (Value.int .i64 (max (i + 1) 0)) from rfl).trans (by rw [HV.out]), pV.trans (hB.mono pV.size)⟩
end Go.Proofs.Val
set_option linter.unusedVariables false
set_option linter.unusedSimpArgs false
namespace Go.Proofs.Val
open Go.RowKit Go.Proofs Go.Proofs.YtolfpgccebdlpaaGreatDoorW.PrintWords
theorem ba_nil (l : List UInt8) : ((⟨l.toArray⟩ : ByteArray).toList == []) = decide (l = []) := by
  rw [Lib.toList_data]
  cases l <;> simp
theorem ba_size (l : List UInt8) : (⟨l.toArray⟩ : ByteArray).size = l.length := rfl
set_option maxHeartbeats 1000000 in
theorem digitsC (l : List UInt8) (m : Int) (w : World) (hs : l.length < 4294967281) :
    Calls Tryz.prog 183 #[.string ⟨l.toArray⟩, .int .i64 m] w fun e w' => e = .returned (.bool (digB l m)) ∧ Below w.heap.size w w' := by
  have hT := fun w => trim_dig ⟨l.toArray⟩ w hs
  have e1 := ba_nil l
  have e2 := ba_nil (Lib.trimS l [48, 49, 50, 51, 52, 53, 54, 55, 56, 57])
  have e3 := ba_size l
  have HD := Lib.hid (show digB l m = (!decide (l = []) && (decide ((l.length : Int) ≤ m) && decide (Lib.trimS l [48, 49, 50, 51, 52, 53, 54, 55, 56, 57] = []))) by
    unfold digB
    congr 1
    · simp
    · congr 1
      rw [Bool.eq_iff_iff, decide_eq_true_iff, trim_dig_nil])
  obtain ⟨u, hu⟩ : ∃ u, Lib.trimS l [48, 49, 50, 51, 52, 53, 54, 55, 56, 57] = u := ⟨_, rfl⟩
  rw [show (⟨l.toArray⟩ : ByteArray).data.toList = l from rfl, hu] at hT
  rw [hu] at e2 HD
  obtain ⟨s, hS⟩ : ∃ s : ByteArray, ⟨l.toArray⟩ = s := ⟨_, rfl⟩
  obtain ⟨t, ht⟩ : ∃ t : ByteArray, ⟨u.toArray⟩ = t := ⟨_, rfl⟩
  rw [hS] at e1 e3 hT ⊢
  rw [ht] at e2 hT
  clear hu hS ht
  go_enter Tryz.func183, Tryz.ntmps183
  by_cases h0 : l = []
  · rw [decide_eq_true h0] at e1
    have HD2 := Lib.hid (show digB l m = false by rw [HD.out, decide_eq_true h0]; rfl)
    clear h0
    go_wp2
    go_ret
    exact ⟨by rw [HD2.out]; rfl, Below.refl _ _⟩
  · rw [decide_eq_false h0] at e1
    by_cases h1 : (l.length : Int) ≤ m
    · have d1 : decide ((s.size : Int) ≤ m) = true := by rw [e3]; exact decide_eq_true h1
      by_cases h2 : u = []
      · rw [decide_eq_true h2] at e2
        have HD2 := Lib.hid (show digB l m = true by rw [HD.out, decide_eq_false h0, decide_eq_true h1, decide_eq_true h2]; rfl)
        clear h0 h1 h2 e3
        go_wp2_with (first | (go_at_call 132; refine (hT _).mono ?_; rintro e w' ⟨rfl, hB⟩))
        go_ret
        exact ⟨by rw [HD2.out]; rfl, hB⟩
      · rw [decide_eq_false h2] at e2
        have HD2 := Lib.hid (show digB l m = false by rw [HD.out, decide_eq_false h0, decide_eq_true h1, decide_eq_false h2]; rfl)
        clear h0 h1 h2 e3
        go_wp2_with (first | (go_at_call 132; refine (hT _).mono ?_; rintro e w' ⟨rfl, hB⟩))
        go_ret
        exact ⟨by rw [HD2.out]; rfl, hB⟩
    · have d1 : decide ((s.size : Int) ≤ m) = false := by rw [e3]; exact decide_eq_false h1
      have HD2 := Lib.hid (show digB l m = false by rw [HD.out, decide_eq_false h0, decide_eq_false h1]; rfl)
      clear h0 h1 e3
      go_wp2
      go_ret
      exact ⟨by rw [HD2.out]; rfl, Below.refl _ _⟩
theorem cut_none {l s : List UInt8} (h : (Lib.cut l s).2.2 = false) : (Lib.cut l s).2.1 = [] := by
  unfold Lib.cut at h ⊢
  split at h
  · cases h
  · rename_i hn; rw [if_neg hn]
theorem cut_len (l s : List UInt8) : (Lib.cut l s).1.length ≤ l.length ∧ (Lib.cut l s).2.1.length ≤ l.length := by
  unfold Lib.cut
  split
  · simp only [List.length_take, List.length_drop]; omega
  · simp
theorem ba_app (a b : List UInt8) : ((⟨a.toArray⟩ : ByteArray) ++ ⟨b.toArray⟩) = ⟨(a ++ b).toArray⟩ := by
  apply ByteArray.ext
  rw [ByteArray.data_append]
  simp
theorem ba_take (t : List UInt8) (m : Nat) : (⟨t.toArray⟩ : ByteArray).extract 0 m = ⟨(t.take m).toArray⟩ := by
  rw [Lib.extract_mk, List.drop_zero, Nat.sub_zero]
theorem trimPrefix_len (l p : List UInt8) : (Lib.trimPrefix l p).length ≤ l.length := by
  unfold Lib.trimPrefix
  split
  · rw [List.length_drop]; omega
  · exact Nat.le_refl _
theorem trimSuffix_len (l p : List UInt8) : (Lib.trimSuffix l p).length ≤ l.length := by
  unfold Lib.trimSuffix
  split
  · rw [List.length_take]; omega
  · exact Nat.le_refl _
theorem parse_below {W W' : World} (h : W' = W ∨ ∃ t, W' = Lib.bytesWorld W 5 t) : Below W.heap.size W W' := by
  rcases h with rfl | ⟨t, rfl⟩
  · exact Below.refl _ _
  · exact Lib.bytesWorld_below _ _ _
theorem decV_lt9 {l : List UInt8} (h : digB l 9 = true) : decV 0 l < 1000000000 := by
  obtain ⟨h1, h2, h3⟩ := digB_iff.1 h
  have := decV_lt l 0 0 h3 (by simp)
  have hp : 10 ^ (0 + l.length) ≤ 10 ^ 9 := Nat.pow_le_pow_right (by omega) (by omega)
  generalize h9 : 10 ^ 9 = T at hp
  have hT : T = 1000000000 := h9.symm
  omega
set_option maxHeartbeats 2000000 in
theorem numberC (l : List UInt8) (w : World) (hs : l.length < 4294967281) :
    Calls Tryz.prog 148 #[.string ⟨l.toArray⟩] w fun e w' => e = .returned (.tuple #[.int .i64 (numN l), .bool (numOk l)]) ∧ Below w.heap.size w w' := by
  have hP := fun w => Tryz.strings_CutPrefix ⟨l.toArray⟩ ⟨#[45]⟩ w
  have HA := Lib.hid (show numOk l = (digB (Lib.cut (Lib.trimPrefix l [45]) [46]).1 9 && (!(Lib.cut (Lib.trimPrefix l [45]) [46]).2.2 || digB (Lib.cut (Lib.trimPrefix l [45]) [46]).2.1 6)) from rfl)
  have HN := Lib.hid (show numN l = if numOk l = true then (if Lib.hasPrefix l [45] = true then -((decV 0 (Lib.cut (Lib.trimPrefix l [45]) [46]).1 : Int) * 64 + (sixV (Lib.cut (Lib.trimPrefix l [45]) [46]).2.1 : Int) * 64 / 1000000) else ((decV 0 (Lib.cut (Lib.trimPrefix l [45]) [46]).1 : Int) * 64 + (sixV (Lib.cut (Lib.trimPrefix l [45]) [46]).2.1 : Int) * 64 / 1000000)) else 0 from rfl)
  rw [show (⟨l.toArray⟩ : ByteArray).data.toList = l from rfl, show (⟨#[45]⟩ : ByteArray).data.toList = [45] from rfl] at hP
  have hl := trimPrefix_len l [45]
  obtain ⟨rest, hrest⟩ : ∃ r, Lib.trimPrefix l [45] = r := ⟨_, rfl⟩
  obtain ⟨bl, hbl⟩ : ∃ r, Lib.hasPrefix l [45] = r := ⟨_, rfl⟩
  rw [hrest, hbl] at hP
  rw [hrest] at HA hl
  rw [hrest, hbl] at HN
  have hC := fun w => ShX.xCut_one Tryz.lays145 ⟨rest.toArray⟩ 46 w (by show rest.length < _; omega)
  rw [show (⟨rest.toArray⟩ : ByteArray).data.toList = rest from rfl] at hC
  have hcn := cut_none (l := rest) (s := [46])
  have hcl := cut_len rest [46]
  obtain ⟨⟨c1, c2, dot⟩, hc⟩ : ∃ r, Lib.cut rest [46] = r := ⟨_, rfl⟩
  simp only [hc] at hC hcn hcl
  rw [hc] at HA HN
  simp only at HA HN
  have hD1 := fun w => digitsC c1 9 w (by omega)
  have hD2 := fun w => digitsC c2 6 w (by omega)
  have p1 := fun (h : digB c1 9 = true) w => by
    obtain ⟨q1, q2, q3⟩ := digB_iff.1 h
    exact Tryz.strconv_ParseInt_10_at64_ok ⟨c1.toArray⟩ (by show c1.length ≤ _; omega) (decV 0 c1 : Int) (by show Lib.parseIntB 64 c1 = _; exact parse_dig q3 q1 (by omega)) w
  have e6 : ((⟨c2.toArray⟩ : ByteArray) ++ ⟨#[48, 48, 48, 48, 48, 48]⟩).extract 0 6 = ⟨((c2 ++ zeros6).take 6).toArray⟩ := by
    rw [show (⟨#[48, 48, 48, 48, 48, 48]⟩ : ByteArray) = ⟨zeros6.toArray⟩ from rfl, ba_app, ba_take]
  have p2 := fun (h : c2.all isDig = true) w => by
    obtain ⟨q1, q2⟩ := six_dig h
    refine Tryz.strconv_ParseInt_10_at64_ok (((⟨c2.toArray⟩ : ByteArray) ++ ⟨#[48, 48, 48, 48, 48, 48]⟩).extract 0 6) ?_ (sixV c2 : Int) ?_ w
    · rw [e6]; show ((c2 ++ zeros6).take 6).length ≤ _; omega
    · rw [e6]; show Lib.parseIntB 64 ((c2 ++ zeros6).take 6) = _; exact parse_dig q1 (fun e => by rw [e] at q2; cases q2) (by omega)
  have hz : ((⟨c2.toArray⟩ : ByteArray) ++ ⟨#[48, 48, 48, 48, 48, 48]⟩).size = c2.length + 6 := by
    rw [show (⟨#[48, 48, 48, 48, 48, 48]⟩ : ByteArray) = ⟨zeros6.toArray⟩ from rfl, ba_app]
    show (c2 ++ zeros6).length = _
    simp [zeros6]
  obtain ⟨W1, h1⟩ : ∃ b, digB c1 9 = b := ⟨_, rfl⟩
  obtain ⟨W2, h2⟩ : ∃ b, digB c2 6 = b := ⟨_, rfl⟩
  simp only [h1] at hD1
  simp only [h2] at hD2
  rw [h1, h2] at HA
  cases W1 with
  | false =>
    have HK := Lib.hid (show numOk l = false ∧ numN l = 0 from ⟨by rw [HA.out]; rfl, by rw [HN.out, show numOk l = false by rw [HA.out]; rfl]; rfl⟩)
    clear p1 p2 hcn hcl HA HN hz e6 h1 h2 hc hl hrest hbl hs hD2
    go_enter Tryz.func148, Tryz.ntmps148
    go_wp2_with (first | (go_at_call 182; refine (hP _).mono ?_; rintro e w' ⟨rfl, rfl⟩) | (go_at_call 102; refine (hC _).mono ?_; rintro e w' ⟨rfl, nd, rfl⟩) | (go_at_call 183; refine (hD1 _).mono ?_; rintro e w1 ⟨rfl, hB1⟩))
    go_ret2
    have q0 := pw_below_drewN (Below.refl w'.heap.size w') nd
    exact ⟨(show _ = Ending.returned (Value.tuple #[.int .i64 0, .bool false]) from rfl).trans (by rw [HK.out.1, HK.out.2]), below_then q0 q0.size hB1⟩
  | true =>
    cases dot with
    | false =>
      obtain rfl := hcn rfl
      have hall : ([] : List UInt8).all isDig = true := rfl
      clear hD2
      obtain ⟨n, hn⟩ : ∃ n : Int, (decV 0 c1 : Int) = n := ⟨_, rfl⟩
      obtain ⟨m, hm⟩ : ∃ m : Int, (sixV ([] : List UInt8) : Int) = m := ⟨_, rfl⟩
      have bn : 0 ≤ n ∧ n < 1000000000 := by have := decV_lt9 h1; omega
      have bm : 0 ≤ m ∧ m < 1000000 := by have := six_lt hall; omega
      have hN := p1 h1
      have hM := p2 hall
      rw [hn] at hN
      rw [hm] at hM
      have HK := Lib.hid (show numOk l = true ∧ numN l = if bl = true then -(n * 64 + m * 64 / 1000000) else n * 64 + m * 64 / 1000000 from ⟨by rw [HA.out]; rfl, by rw [HN.out, show numOk l = true by rw [HA.out]; rfl, hn, hm]; rfl⟩)
      clear p1 p2 hcn hcl HA HN e6 h1 h2 hc hl hrest hbl hs hall hn hm
      cases bl with
      | false =>
        go_enter Tryz.func148, Tryz.ntmps148
        go_wp2_with (first | (go_at_call 182; refine (hP _).mono ?_; rintro e w' ⟨rfl, rfl⟩) | (go_at_call 102; refine (hC _).mono ?_; rintro e w' ⟨rfl, nd, rfl⟩) | (go_at_call 183; refine (hD1 _).mono ?_; rintro e w1 ⟨rfl, hB1⟩) | (go_at_call 184; first | (with_reducible refine (hN _).mono ?_; rintro e w3 ⟨rfl, hB3⟩) | (refine (hM _).mono ?_; rintro e w4 ⟨rfl, hB4⟩)))
        go_ret2
        have q0 := pw_below_drewN (Below.refl w'.heap.size w') nd
        have q1 := below_then q0 q0.size hB1
        have q2 := q1
        have q3 := below_then q2 q2.size (parse_below hB3)
        exact ⟨(show _ = Ending.returned (Value.tuple #[.int .i64 (n * 64 + m * 64 / 1000000), .bool true]) from rfl).trans (by rw [HK.out.1, HK.out.2]; rfl), below_then q3 q3.size (parse_below hB4)⟩
      | true =>
        go_enter Tryz.func148, Tryz.ntmps148
        go_wp2_with (first | (go_at_call 182; refine (hP _).mono ?_; rintro e w' ⟨rfl, rfl⟩) | (go_at_call 102; refine (hC _).mono ?_; rintro e w' ⟨rfl, nd, rfl⟩) | (go_at_call 183; refine (hD1 _).mono ?_; rintro e w1 ⟨rfl, hB1⟩) | (go_at_call 184; first | (with_reducible refine (hN _).mono ?_; rintro e w3 ⟨rfl, hB3⟩) | (refine (hM _).mono ?_; rintro e w4 ⟨rfl, hB4⟩)))
        go_ret2
        have q0 := pw_below_drewN (Below.refl w'.heap.size w') nd
        have q1 := below_then q0 q0.size hB1
        have q2 := q1
        have q3 := below_then q2 q2.size (parse_below hB3)
        exact ⟨(show _ = Ending.returned (Value.tuple #[.int .i64 (-(n * 64 + m * 64 / 1000000)), .bool true]) from rfl).trans (by rw [HK.out.1, HK.out.2]; rfl), below_then q3 q3.size (parse_below hB4)⟩
    | true =>
      cases W2 with
      | false =>
        have HK := Lib.hid (show numOk l = false ∧ numN l = 0 from ⟨by rw [HA.out]; rfl, by rw [HN.out, show numOk l = false by rw [HA.out]; rfl]; rfl⟩)
        clear p1 p2 hcn hcl HA HN hz e6 h1 h2 hc hl hrest hbl hs
        go_enter Tryz.func148, Tryz.ntmps148
        go_wp2_with (first | (go_at_call 182; refine (hP _).mono ?_; rintro e w' ⟨rfl, rfl⟩) | (go_at_call 102; refine (hC _).mono ?_; rintro e w' ⟨rfl, nd, rfl⟩) | (go_at_call 183; first | (with_reducible refine (hD1 _).mono ?_; rintro e w1 ⟨rfl, hB1⟩) | (with_reducible refine (hD2 _).mono ?_; rintro e w2 ⟨rfl, hB2⟩)))
        go_ret2
        have q0 := pw_below_drewN (Below.refl w'.heap.size w') nd
        have q1 := below_then q0 q0.size hB1
        exact ⟨(show _ = Ending.returned (Value.tuple #[.int .i64 0, .bool false]) from rfl).trans (by rw [HK.out.1, HK.out.2]), below_then q1 q1.size hB2⟩
      | true =>
        have hall : c2.all isDig = true := (digB_iff.1 h2).2.2
        have hz2 : (⟨c2.toArray⟩ : ByteArray).size + (⟨#[48, 48, 48, 48, 48, 48]⟩ : ByteArray).size ≤ 9223372036854775807 := by show c2.length + 6 ≤ _; omega
        obtain ⟨n, hn⟩ : ∃ n : Int, (decV 0 c1 : Int) = n := ⟨_, rfl⟩
        obtain ⟨m, hm⟩ : ∃ m : Int, (sixV c2 : Int) = m := ⟨_, rfl⟩
        have bn : 0 ≤ n ∧ n < 1000000000 := by have := decV_lt9 h1; omega
        have bm : 0 ≤ m ∧ m < 1000000 := by have := six_lt hall; omega
        have hN := p1 h1
        have hM := p2 hall
        rw [hn] at hN
        rw [hm] at hM
        have HK := Lib.hid (show numOk l = true ∧ numN l = if bl = true then -(n * 64 + m * 64 / 1000000) else n * 64 + m * 64 / 1000000 from ⟨by rw [HA.out]; rfl, by rw [HN.out, show numOk l = true by rw [HA.out]; rfl, hn, hm]; rfl⟩)
        clear p1 p2 hcn hcl HA HN e6 h1 h2 hc hl hrest hbl hs hall hn hm
        cases bl with
        | false =>
          go_enter Tryz.func148, Tryz.ntmps148
          go_wp2_with (first | (go_at_call 182; refine (hP _).mono ?_; rintro e w' ⟨rfl, rfl⟩) | (go_at_call 102; refine (hC _).mono ?_; rintro e w' ⟨rfl, nd, rfl⟩) | (go_at_call 183; first | (with_reducible refine (hD1 _).mono ?_; rintro e w1 ⟨rfl, hB1⟩) | (with_reducible refine (hD2 _).mono ?_; rintro e w2 ⟨rfl, hB2⟩)) | (go_at_call 184; first | (with_reducible refine (hN _).mono ?_; rintro e w3 ⟨rfl, hB3⟩) | (refine (hM _).mono ?_; rintro e w4 ⟨rfl, hB4⟩)))
          go_ret2
          have q0 := pw_below_drewN (Below.refl w'.heap.size w') nd
          have q1 := below_then q0 q0.size hB1
          have q2 := below_then q1 q1.size hB2
          have q3 := below_then q2 q2.size (parse_below hB3)
          exact ⟨(show _ = Ending.returned (Value.tuple #[.int .i64 (n * 64 + m * 64 / 1000000), .bool true]) from rfl).trans (by rw [HK.out.1, HK.out.2]; rfl), below_then q3 q3.size (parse_below hB4)⟩
        | true =>
          go_enter Tryz.func148, Tryz.ntmps148
          go_wp2_with (first | (go_at_call 182; refine (hP _).mono ?_; rintro e w' ⟨rfl, rfl⟩) | (go_at_call 102; refine (hC _).mono ?_; rintro e w' ⟨rfl, nd, rfl⟩) | (go_at_call 183; first | (with_reducible refine (hD1 _).mono ?_; rintro e w1 ⟨rfl, hB1⟩) | (with_reducible refine (hD2 _).mono ?_; rintro e w2 ⟨rfl, hB2⟩)) | (go_at_call 184; first | (with_reducible refine (hN _).mono ?_; rintro e w3 ⟨rfl, hB3⟩) | (refine (hM _).mono ?_; rintro e w4 ⟨rfl, hB4⟩)))
          go_ret2
          have q0 := pw_below_drewN (Below.refl w'.heap.size w') nd
          have q1 := below_then q0 q0.size hB1
          have q2 := below_then q1 q1.size hB2
          have q3 := below_then q2 q2.size (parse_below hB3)
          exact ⟨(show _ = Ending.returned (Value.tuple #[.int .i64 (-(n * 64 + m * 64 / 1000000)), .bool true]) from rfl).trans (by rw [HK.out.1, HK.out.2]; rfl), below_then q3 q3.size (parse_below hB4)⟩
def measOk (l s : List UInt8) : Bool := Lib.hasSuffix l s && numOk (Lib.trimSuffix l s)
def measV (l s : List UInt8) (k : Int) : Int × Int := if measOk l s = true then (k, numN (Lib.trimSuffix l s)) else (0, 0)
set_option maxHeartbeats 2000000 in
theorem measureC (l s : List UInt8) (k : Int) (w : World) (hs : l.length < 4294967281) :
    Calls Tryz.prog 177 #[.string ⟨l.toArray⟩, .string ⟨s.toArray⟩, .int .i64 k] w fun e w' => e = .returned (.tuple #[.agg #[.int .i64 (measV l s k).1, .int .i64 (measV l s k).2], .bool (measOk l s)]) ∧ Below w.heap.size w w' := by
  have hP := fun w => Tryz.strings_CutSuffix ⟨l.toArray⟩ ⟨s.toArray⟩ w (by show l.length ≤ _; omega)
  rw [show (⟨l.toArray⟩ : ByteArray).data.toList = l from rfl, show (⟨s.toArray⟩ : ByteArray).data.toList = s from rfl] at hP
  have hN := fun w => numberC (Lib.trimSuffix l s) w (by have := trimSuffix_len l s; omega)
  have HA := Lib.hid (show measOk l s = (Lib.hasSuffix l s && numOk (Lib.trimSuffix l s)) from rfl)
  have HV := Lib.hid (show measV l s k = if measOk l s = true then (k, numN (Lib.trimSuffix l s)) else (0, 0) from rfl)
  obtain ⟨is, h1⟩ : ∃ b, Lib.hasSuffix l s = b := ⟨_, rfl⟩
  obtain ⟨ok, h2⟩ : ∃ b, numOk (Lib.trimSuffix l s) = b := ⟨_, rfl⟩
  obtain ⟨n, h3⟩ : ∃ b, numN (Lib.trimSuffix l s) = b := ⟨_, rfl⟩
  obtain ⟨fr, h4⟩ : ∃ b, Lib.trimSuffix l s = b := ⟨_, rfl⟩
  simp only [h1] at hP
  simp only [h2, h3] at hN
  rw [h1, h2] at HA
  rw [h3] at HV
  simp only [h4] at hP hN
  clear h1 h2 h3 h4 hs
  cases is with
  | false =>
    have HK := Lib.hid (show measOk l s = false ∧ measV l s k = (0, 0) from ⟨by rw [HA.out]; rfl, by rw [HV.out, show measOk l s = false by rw [HA.out]; rfl]; rfl⟩)
    clear HA HV
    go_enter Tryz.func177, Tryz.ntmps177
    go_wp2_with (first | (go_at_call 106; refine (hP _).mono ?_; rintro e w' ⟨rfl, rfl⟩) | (go_at_call 148; refine (hN _).mono ?_; rintro e w1 ⟨rfl, hB1⟩; obtain ⟨hc, hf⟩ := bcell hB1; have hz : w.heap.size < w1.heap.size := by (have hs := hB1.size; rw [alloc_size] at hs; omega)))
    have p1 : Below w.heap.size w w1 := ((Below.refl _ _).alloc (Nat.le_refl _) _).trans (hB1.mono (by rw [alloc_size]; omega))
    refine bodyPost_ret (v := .tuple #[.agg #[.int .i64 0, .int .i64 0], .bool false]) (by simp [results, Tryz.results177, go_sem, hc, hz]) rfl ⟨by rw [HK.out.1, HK.out.2], ?_⟩
    exact (p1.setCell (by exact Nat.le_refl _) _).setCell (by exact Nat.le_refl _) _
  | true =>
    cases ok with
    | false =>
      have HK := Lib.hid (show measOk l s = false ∧ measV l s k = (0, 0) from ⟨by rw [HA.out]; rfl, by rw [HV.out, show measOk l s = false by rw [HA.out]; rfl]; rfl⟩)
      clear HA HV
      go_enter Tryz.func177, Tryz.ntmps177
      go_wp2_with (first | (go_at_call 106; refine (hP _).mono ?_; rintro e w' ⟨rfl, rfl⟩) | (go_at_call 148; refine (hN _).mono ?_; rintro e w1 ⟨rfl, hB1⟩; obtain ⟨hc, hf⟩ := bcell hB1; have hz : w.heap.size < w1.heap.size := by (have hs := hB1.size; rw [alloc_size] at hs; omega)))
      have p1 : Below w.heap.size w w1 := ((Below.refl _ _).alloc (Nat.le_refl _) _).trans (hB1.mono (by rw [alloc_size]; omega))
      refine bodyPost_ret (v := .tuple #[.agg #[.int .i64 0, .int .i64 0], .bool false]) (by simp [results, Tryz.results177, go_sem, hc, hz]) rfl ⟨by rw [HK.out.1, HK.out.2], ?_⟩
      exact (p1.setCell (by exact Nat.le_refl _) _).setCell (by exact Nat.le_refl _) _
    | true =>
      have HK := Lib.hid (show measOk l s = true ∧ measV l s k = (k, n) from ⟨by rw [HA.out]; rfl, by rw [HV.out, show measOk l s = true by rw [HA.out]; rfl]; rfl⟩)
      clear HA HV
      go_enter Tryz.func177, Tryz.ntmps177
      go_wp2_with (first | (go_at_call 106; refine (hP _).mono ?_; rintro e w' ⟨rfl, rfl⟩) | (go_at_call 148; refine (hN _).mono ?_; rintro e w1 ⟨rfl, hB1⟩; obtain ⟨hc, hf⟩ := bcell hB1; have hz : w.heap.size < w1.heap.size := by (have hs := hB1.size; rw [alloc_size] at hs; omega)))
      have p1 : Below w.heap.size w w1 := ((Below.refl _ _).alloc (Nat.le_refl _) _).trans (hB1.mono (by rw [alloc_size]; omega))
      refine bodyPost_ret (v := .tuple #[.agg #[.int .i64 k, .int .i64 n], .bool true]) (by simp [results, Tryz.results177, go_sem, hc, hz]) rfl ⟨by rw [HK.out.1, HK.out.2], ?_⟩
      exact (p1.setCell (by exact Nat.le_refl _) _).setCell (by exact Nat.le_refl _) _
end Go.Proofs.Val
set_option linter.unusedVariables false
set_option linter.unusedSimpArgs false
namespace Go.Proofs.Val
open Go.RowKit Go.Proofs Go.Proofs.YtolfpgccebdlpaaGreatDoorW.PrintWords
/-- the tables of the library that numbers' texts are made by -/
structure Tbs (w : World) : Prop where
  p10 : Lib.TabIs Tryz.prog w "internal/strconv.uint64pow10" .u64 Lib.pow10Tab
  tz : w.cell? ⟨7, 15, none⟩ = some (.int .u8 4)
theorem gn10 : Tryz.prog.globalNamed "internal/strconv.uint64pow10" = some 3 := by kernel_rfl
theorem Tbs.below {w w' : World} (h : Tbs w) (hb : Below w.heap.size w w') : Tbs w' := by
  refine ⟨?_, (hb.cell (p := ⟨7, 15, none⟩) (World.block_lt_of_cell? _ _ h.tz)).trans h.tz⟩
  have h1 := h.p10
  unfold Lib.TabIs World.var? at h1 ⊢
  rw [gn10] at h1 ⊢
  simp only [Option.bind_some] at h1 ⊢
  have hlt : 3 < w.heap.size := by
    rcases Nat.lt_or_ge 3 w.heap.size with h' | h'
    · exact h'
    · rw [Array.getElem?_eq_none h'] at h1; cases h1
  rw [hb.block _ hlt]
  exact h1
theorem Tbs.draws {w : World} (h : Tbs w) (n : Nat) : Tbs (w.drewN n) := ⟨h.p10, h.tz⟩
theorem grow_below (w : World) (q : Nat) (os : Array Obj) : Below w.heap.size w (Go.Sort.grow (w.drewN q) os) :=
  ⟨rfl, rfl, rfl, by first | (simp [Go.Sort.grow]; done) | (simp [Go.Sort.grow]; omega), fun i hi => by
    show ((w.drewN q).heap ++ os)[i]? = _
    rw [Array.getElem?_append_left (by show i < w.heap.size; omega)]
    rfl⟩
theorem fmt10 (u : Nat) (hu : u ≤ 1000000000) (w : World) (hT : Tbs w) :
    Calls Tryz.prog 121 #[.int .i64 (u : Int), .int .i64 10] w fun e w' => e = .returned (.string ⟨(Lib.decDigits u).toArray⟩) ∧ Below w.heap.size w w' := by
  refine (Tryz.strconv_FormatInt_10 (u : Int) (by omega) (by omega) w hT.p10).mono ?_
  rintro e w' ⟨rfl, k, os, rfl⟩
  exact ⟨by rw [Lib.itoa_nonneg], grow_below _ _ _⟩
theorem trB (l : List UInt8) : Lib.trimRightB l 48 = Lib.trimRightS l [48] := by
  unfold Lib.trimRightB Lib.trimRightS
  congr 2
  funext c
  by_cases h : c = 48 <;> simp [h]
set_option maxHeartbeats 2000000 in
theorem decimalC (n : Int) (h1 : -63999999999 ≤ n) (h2 : n ≤ 63999999999) (w : World) (hT : Tbs w) :
    Calls Tryz.prog 122 #[.int .i64 n] w fun e w' => e = .returned (.string ⟨(decL n).toArray⟩) ∧ Below w.heap.size w w' := by
  have HL := Lib.hid (show decL n = Lib.trimSuffix ((if n < 0 then [45] else []) ++ Lib.decDigits (n.natAbs / 64) ++ ([46] ++ fracL (n.natAbs % 64))) [46] from rfl)
  obtain ⟨m, hm⟩ : ∃ m, n.natAbs = m := ⟨_, rfl⟩
  rw [hm] at HL
  obtain ⟨q, hq⟩ : ∃ q, m / 64 = q := ⟨_, rfl⟩
  obtain ⟨r, hr⟩ : ∃ r, m % 64 = r := ⟨_, rfl⟩
  rw [hq, hr] at HL
  have hr64 : r < 64 := by omega
  obtain ⟨six, s1, s2, s3, s4⟩ := dd_seven (r := r * 15625) (by omega)
  have hA := fun w hT => fmt10 q (by omega) w hT
  have hB := fun w hT => fmt10 (1000000 + r * 15625) (by omega) w hT
  have lq := dd_len (u := q) (k := 9) (by omega) (by simp; omega)
  rw [s1] at hB
  have ex : (⟨(49 :: six).toArray⟩ : ByteArray).extract 1 (⟨(49 :: six).toArray⟩ : ByteArray).size = ⟨six.toArray⟩ := by
    rw [Lib.extract_mk]
    congr 2
    rw [ba_size]
    simp
  have fr : (⟨(Lib.trimRightB (⟨six.toArray⟩ : ByteArray).data.toList 48).toArray⟩ : ByteArray) = ⟨(fracL r).toArray⟩ := by
    rw [show (⟨six.toArray⟩ : ByteArray).data.toList = six from rfl, trB]
    unfold fracL
    rw [s1]; rfl
  have lf := (frac_ok hr64).2.1
  have sz7 : (⟨(49 :: six).toArray⟩ : ByteArray).size = 7 := by rw [ba_size]; simp [s2]
  have hC := fun w => Tryz.strings_TrimRight_one ⟨six.toArray⟩ 48 (by decide) w (by rw [ba_size]; omega)
  rw [fr] at hC
  rw [← ex] at hC
  obtain ⟨sb, hsb⟩ : ∃ sb : ByteArray, ⟨(49 :: six).toArray⟩ = sb := ⟨_, rfl⟩
  rw [hsb] at hB hC sz7
  clear fr ex hsb s1 s2 s3 s4
  have z1 : 1 ≤ sb.size ∧ sb.size ≤ 7 := by omega
  clear sz7
  have e1 : ((1000000 + r * 15625 : Nat) : Int) = 1000000 + (m : Int) % 64 * 15625 := by omega
  have e2 : ((q : Nat) : Int) = (m : Int) / 64 := by omega
  rw [e1] at hB
  rw [e2] at hA
  have hm64 : (m : Int) ≤ 63999999999 := by omega
  have m0 : 0 ≤ (m : Int) := by omega
  obtain ⟨M, hM⟩ : ∃ M : Int, (m : Int) = M := ⟨_, rfl⟩
  rw [hM] at hA hB hm64 m0
  obtain ⟨fb, hfb⟩ : ∃ fb : List UInt8, fracL r = fb := ⟨_, rfl⟩
  obtain ⟨wb, hwb⟩ : ∃ wb : List UInt8, Lib.decDigits q = wb := ⟨_, rfl⟩
  rw [hfb] at hC lf HL
  rw [hwb] at hA lq HL
  have zf := ba_size fb
  have zw := ba_size wb
  by_cases hn : n < 0
  · rw [if_pos hn] at HL
    have hS := fun w => Tryz.strings_TrimSuffix (((⟨#[45]⟩ : ByteArray) ++ ⟨wb.toArray⟩) ++ ⟨#[46]⟩ ++ ⟨fb.toArray⟩) ⟨#[46]⟩ w (by
      rw [show (⟨#[45]⟩ : ByteArray) = ⟨([45] : List UInt8).toArray⟩ from rfl, show (⟨#[46]⟩ : ByteArray) = ⟨([46] : List UInt8).toArray⟩ from rfl, ba_app, ba_app, ba_app, ba_size]; simp; omega)
    have hk1 : (⟨#[45]⟩ : ByteArray).size + (⟨wb.toArray⟩ : ByteArray).size ≤ 9223372036854775807 := by rw [ba_size]; show 1 + _ ≤ _; omega
    have hk2 : ((⟨#[45]⟩ : ByteArray) ++ ⟨wb.toArray⟩).size + (⟨#[46]⟩ : ByteArray).size ≤ 9223372036854775807 := by rw [show (⟨#[45]⟩ : ByteArray) = ⟨([45] : List UInt8).toArray⟩ from rfl, ba_app, ba_size]; show (_ + 1) ≤ _; simp; omega
    have hk3 : (((⟨#[45]⟩ : ByteArray) ++ ⟨wb.toArray⟩) ++ (⟨#[46]⟩ : ByteArray)).size + (⟨fb.toArray⟩ : ByteArray).size ≤ 9223372036854775807 := by rw [show (⟨#[45]⟩ : ByteArray) = ⟨([45] : List UInt8).toArray⟩ from rfl, show (⟨#[46]⟩ : ByteArray) = ⟨([46] : List UInt8).toArray⟩ from rfl, ba_app, ba_app, ba_size, ba_size]; simp; omega
    have fin : (⟨(Lib.trimSuffix (((⟨#[45]⟩ : ByteArray) ++ ⟨wb.toArray⟩) ++ ⟨#[46]⟩ ++ ⟨fb.toArray⟩ : ByteArray).data.toList (⟨#[46]⟩ : ByteArray).data.toList).toArray⟩ : ByteArray) = ⟨(decL n).toArray⟩ := by
      rw [show (⟨#[45]⟩ : ByteArray) = ⟨([45] : List UInt8).toArray⟩ from rfl, show (⟨#[46]⟩ : ByteArray) = ⟨([46] : List UInt8).toArray⟩ from rfl, ba_app, ba_app, ba_app, HL.out]
      simp
    rw [fin] at hS
    obtain ⟨D, hD⟩ : ∃ D : ByteArray, ⟨(decL n).toArray⟩ = D := ⟨_, rfl⟩
    rw [hD] at hS ⊢
    obtain ⟨Fb, hFb⟩ : ∃ D : ByteArray, ⟨fb.toArray⟩ = D := ⟨_, rfl⟩
    obtain ⟨Wb, hWb⟩ : ∃ D : ByteArray, ⟨wb.toArray⟩ = D := ⟨_, rfl⟩
    rw [hFb] at hC hS hk3
    rw [hWb] at hA hS hk1 hk2 hk3
    obtain rfl : n = -M := by omega
    clear fin hD hFb hWb HL zf zw hfb hwb hM e1 e2 hq hr hm hr64 lf lq
    go_enter Tryz.func122, Tryz.ntmps122
    go_wp2_with (first | (go_at_call 121; first | (with_reducible refine (hA _ hT).mono ?_; rintro e w1 ⟨rfl, hB1⟩) | (with_reducible refine (hB _ (hT.below hB1)).mono ?_; rintro e w2 ⟨rfl, hB2⟩)) | (go_at_call 151; with_reducible refine (hC _).mono ?_; rintro e w3 ⟨rfl, rfl⟩) | (go_at_call 150; with_reducible refine (hS _).mono ?_; rintro e w4 ⟨rfl, rfl⟩))
    go_ret
    exact ⟨rfl, below_then hB1 hB1.size hB2⟩
  · rw [if_neg hn] at HL
    have hS := fun w => Tryz.strings_TrimSuffix (((⟨#[]⟩ : ByteArray) ++ ⟨wb.toArray⟩) ++ ⟨#[46]⟩ ++ ⟨fb.toArray⟩) ⟨#[46]⟩ w (by
      rw [show (⟨#[]⟩ : ByteArray) = ⟨([] : List UInt8).toArray⟩ from rfl, show (⟨#[46]⟩ : ByteArray) = ⟨([46] : List UInt8).toArray⟩ from rfl, ba_app, ba_app, ba_app, ba_size]; simp; omega)
    have hk1 : (⟨#[]⟩ : ByteArray).size + (⟨wb.toArray⟩ : ByteArray).size ≤ 9223372036854775807 := by rw [ba_size]; show 0 + _ ≤ _; omega
    have hk2 : ((⟨#[]⟩ : ByteArray) ++ ⟨wb.toArray⟩).size + (⟨#[46]⟩ : ByteArray).size ≤ 9223372036854775807 := by rw [show (⟨#[]⟩ : ByteArray) = ⟨([] : List UInt8).toArray⟩ from rfl, ba_app, ba_size]; show (_ + 1) ≤ _; simp; omega
    have hk3 : (((⟨#[]⟩ : ByteArray) ++ ⟨wb.toArray⟩) ++ (⟨#[46]⟩ : ByteArray)).size + (⟨fb.toArray⟩ : ByteArray).size ≤ 9223372036854775807 := by rw [show (⟨#[]⟩ : ByteArray) = ⟨([] : List UInt8).toArray⟩ from rfl, show (⟨#[46]⟩ : ByteArray) = ⟨([46] : List UInt8).toArray⟩ from rfl, ba_app, ba_app, ba_size, ba_size]; simp; omega
    have fin : (⟨(Lib.trimSuffix (((⟨#[]⟩ : ByteArray) ++ ⟨wb.toArray⟩) ++ ⟨#[46]⟩ ++ ⟨fb.toArray⟩ : ByteArray).data.toList (⟨#[46]⟩ : ByteArray).data.toList).toArray⟩ : ByteArray) = ⟨(decL n).toArray⟩ := by
      rw [show (⟨#[]⟩ : ByteArray) = ⟨([] : List UInt8).toArray⟩ from rfl, show (⟨#[46]⟩ : ByteArray) = ⟨([46] : List UInt8).toArray⟩ from rfl, ba_app, ba_app, ba_app, HL.out]
      simp
    rw [fin] at hS
    obtain ⟨D, hD⟩ : ∃ D : ByteArray, ⟨(decL n).toArray⟩ = D := ⟨_, rfl⟩
    rw [hD] at hS ⊢
    obtain ⟨Fb, hFb⟩ : ∃ D : ByteArray, ⟨fb.toArray⟩ = D := ⟨_, rfl⟩
    obtain ⟨Wb, hWb⟩ : ∃ D : ByteArray, ⟨wb.toArray⟩ = D := ⟨_, rfl⟩
    rw [hFb] at hC hS hk3
    rw [hWb] at hA hS hk1 hk2 hk3
    obtain rfl : n = M := by omega
    clear fin hD hFb hWb HL zf zw hfb hwb hM e1 e2 hq hr hm hr64 lf lq
    go_enter Tryz.func122, Tryz.ntmps122
    go_wp2_with (first | (go_at_call 121; first | (with_reducible refine (hA _ hT).mono ?_; rintro e w1 ⟨rfl, hB1⟩) | (with_reducible refine (hB _ (hT.below hB1)).mono ?_; rintro e w2 ⟨rfl, hB2⟩)) | (go_at_call 151; with_reducible refine (hC _).mono ?_; rintro e w3 ⟨rfl, rfl⟩) | (go_at_call 150; with_reducible refine (hS _).mono ?_; rintro e w4 ⟨rfl, rfl⟩))
    go_ret
    exact ⟨rfl, below_then hB1 hB1.size hB2⟩
end Go.Proofs.Val
set_option linter.unusedVariables false
set_option linter.unusedSimpArgs false
namespace Go.Proofs.Val
open Go.RowKit Go.Proofs Go.Proofs.YtolfpgccebdlpaaGreatDoorW.PrintWords
def isHex (c : UInt8) : Bool := isDig c || (decide (97 ≤ c.toNat) && decide (c.toNat ≤ 102))
def hx (c : UInt8) : Nat := if c.toNat ≤ 57 then c.toNat - 48 else c.toNat - 87
def hexV (a : Nat) (l : List UInt8) : Nat := l.foldl (fun a c => a * 16 + hx c) a
theorem isHex_iff {c : UInt8} : isHex c = true ↔ (48 ≤ c.toNat ∧ c.toNat ≤ 57) ∨ (97 ≤ c.toNat ∧ c.toNat ≤ 102) := by simp [isHex, isDig]
theorem hx_lt {c : UInt8} (h : isHex c = true) : hx c < 16 := by
  rw [isHex_iff] at h
  unfold hx; split <;> omega
theorem hexV_snoc (a : Nat) (l : List UInt8) (c : UInt8) : hexV a (l ++ [c]) = hexV a l * 16 + hx c := by unfold hexV; rw [List.foldl_append]; rfl
theorem hexV_take_lt {l : List UInt8} (h : l.all isHex = true) : ∀ k, k ≤ l.length → hexV 0 (l.take k) < 16 ^ k
  | 0, _ => by simp [hexV]
  | k + 1, hk => by
    have ih := hexV_take_lt h k (by omega)
    rw [List.take_succ_eq_append_getElem (by omega), hexV_snoc, Nat.pow_succ]
    have := hx_lt (List.all_eq_true.1 h _ (List.getElem_mem (show k < l.length by omega)))
    omega
theorem hexV_take_succ {l : List UInt8} {k : Nat} (hk : k < l.length) : hexV 0 (l.take (k + 1)) = hexV 0 (l.take k) * 16 + hx (l.getD k 0) := by
  rw [List.take_succ_eq_append_getElem hk, hexV_snoc]
  simp [List.getD, List.getElem?_eq_getElem hk]
theorem hex_le6 {k : Nat} (h : k ≤ 6) : 16 ^ k ≤ 16777216 := by
  obtain rfl | rfl | rfl | rfl | rfl | rfl | rfl : k = 0 ∨ k = 1 ∨ k = 2 ∨ k = 3 ∨ k = 4 ∨ k = 5 ∨ k = 6 := by omega
  all_goals decide
set_option maxHeartbeats 4000000 in
set_option maxRecDepth 1000000 in
theorem parseU16 (l : List UInt8) (h1 : l ≠ []) (h6 : l.length ≤ 6) (hx' : l.all isHex = true) (w : World) :
    Calls Tryz.prog 207 #[.string ⟨l.toArray⟩, .int .i64 16, .int .i64 64] w fun e w' => e = .returned (.tuple #[.int .u64 (hexV 0 l : Int), .nilIface]) ∧ Below w.heap.size w w' := by
  have hconv := Lib.run_convert_string_bytes (P := Tryz.prog) w 9 97 5 ⟨l.toArray⟩ Tryz.underlying9 Tryz.underlying97 Tryz.underlying5
  have hcells := Lib.bytesWorld_cell w 5 ⟨l.toArray⟩
  have hbel := Lib.bytesWorld_below w 5 ⟨l.toArray⟩
  have e1 := ba_nil l
  rw [decide_eq_false h1] at e1
  have hsz := ba_size l
  obtain ⟨W1, hW1⟩ : ∃ W1, Lib.bytesWorld w 5 ⟨l.toArray⟩ = W1 := ⟨_, rfl⟩
  obtain ⟨cap, hcap⟩ : ∃ cap, grownCap w (⟨l.toArray⟩ : ByteArray).size 0 5 = cap := ⟨_, rfl⟩
  rw [hW1] at hconv hcells hbel
  rw [hcap] at hconv
  rw [hsz] at hconv hcells
  rw [show (⟨l.toArray⟩ : ByteArray).data.toList = l from rfl] at hcells
  have HC := Lib.hid hcells
  have HB := Lib.hid hbel
  clear hW1 hcap hcells hbel hsz
  obtain ⟨s, hS⟩ : ∃ s : ByteArray, ⟨l.toArray⟩ = s := ⟨_, rfl⟩
  rw [hS] at e1 hconv ⊢
  clear hS
  go_enter Tryz.func207, Tryz.ntmps207
  go_wp2
  have hm : IntKind.u64.wrap (IntKind.u64.wrap 18446744073709551616 - 1) = 18446744073709551615 := by decide
  rw [hm]
  clear hm hconv
  go_loopw [12, 13, 101] (fun u m i wr => ∃ k : Nat, k ≤ l.length ∧ i = .int .i64 k ∧ m = .int .u64 (hexV 0 (l.take k) : Int) ∧ u = .bool false ∧ wr = W1) (fun _ _ i _ => l.length - (RowKit.intOf i).toNat)
  case atStart => exact ⟨0, by omega, rfl, rfl, rfl, rfl⟩
  case round =>
    obtain ⟨k, hk, rfl, rfl, rfl, rfl⟩ := hrel
    have hnl := hexV_take_lt hx' k hk
    have hp := hex_le6 (Nat.le_trans hk h6)
    by_cases hlt : k < l.length
    · have hc := HC.out k hlt
      have hhex : isHex (l.getD k 0) = true := by
        have e : l.getD k 0 = l[k] := by simp [List.getD, List.getElem?_eq_getElem hlt]
        rw [e]
        exact List.all_eq_true.1 hx' _ (List.getElem_mem hlt)
      have hsuc := hexV_take_succ hlt
      obtain ⟨n, hn⟩ : ∃ n, hexV 0 (l.take k) = n := ⟨_, rfl⟩
      obtain ⟨c, hcc⟩ : ∃ c, l.getD k 0 = c := ⟨_, rfl⟩
      rw [hn] at hnl hsuc ⊢
      rw [hcc] at hc hhex hsuc
      have hn16 : n < 16777216 := by omega
      rw [isHex_iff] at hhex
      obtain ⟨z, hz⟩ : ∃ z : Int, (n : Int) = z := ⟨_, rfl⟩
      have bz : 0 ≤ z ∧ z < 16777216 := by omega
      have gz : decide ((1152921504606846976 : Int) ≤ z) = false := decide_eq_false (by omega)
      rw [hz]
      have HS := Lib.hid (show (hexV 0 (l.take (k + 1)) : Int) = z * 16 + (hx c : Int) by rw [hsuc, ← hz]; omega)
      clear hn hcc hp hnl hsuc hz hn16
      by_cases hd : c.toNat ≤ 57
      · have HV := Lib.hid (show hx c = c.toNat - 48 by unfold hx; rw [if_pos hd])
        have hlo : 48 ≤ c.toNat := by omega
        obtain ⟨x, hxx⟩ : ∃ x : Int, (c.toNat : Int) = x := ⟨_, rfl⟩
        have HX := Lib.hid hxx
        rw [hxx] at hc
        have b1 : 48 ≤ x ∧ x ≤ 57 := by omega
        have g0 : (x == 95) = false := beq_eq_false_iff_ne.2 (by omega)
        have g1 : decide ((48 : Int) ≤ x) = true := decide_eq_true (by omega)
        have g2 : decide (x ≤ (57 : Int)) = true := decide_eq_true (by omega)
        clear hhex hd hlo hxx
        go_wp2
        refine ⟨⟨k + 1, by omega, by go_num, ?_, rfl, trivial⟩, by simp [RowKit.intOf]; omega⟩
        rw [HS.out, HV.out]
        congr 1
        have := HX.out
        omega
      · have HV := Lib.hid (show hx c = c.toNat - 87 by unfold hx; rw [if_neg hd])
        obtain ⟨x, hxx⟩ : ∃ x : Int, (c.toNat : Int) = x := ⟨_, rfl⟩
        have HX := Lib.hid hxx
        rw [hxx] at hc
        have b1 : 97 ≤ x ∧ x ≤ 102 := by omega
        have hlow : bits .or .u8 x 32 = x := by
          obtain rfl | rfl | rfl | rfl | rfl | rfl : x = 97 ∨ x = 98 ∨ x = 99 ∨ x = 100 ∨ x = 101 ∨ x = 102 := by omega
          all_goals decide
        have g0 : (x == 95) = false := beq_eq_false_iff_ne.2 (by omega)
        have g1 : decide ((48 : Int) ≤ x) = true := decide_eq_true (by omega)
        have g2 : decide (x ≤ (57 : Int)) = false := decide_eq_false (by omega)
        have g3 : decide ((97 : Int) ≤ x) = true := decide_eq_true (by omega)
        have g4 : decide (x ≤ (122 : Int)) = true := decide_eq_true (by omega)
        clear hhex hd hxx
        go_wp2_with (go_at_call 214; refine (Tryz.internal_strconv_lower _ _).mono ?_; rintro e w' ⟨rfl, rfl⟩; rw [hlow])
        refine ⟨⟨k + 1, by omega, by go_num, ?_, rfl, trivial⟩, by simp [RowKit.intOf]; omega⟩
        rw [HS.out, HV.out]
        congr 1
        have := HX.out
        omega
    · obtain rfl : k = l.length := by omega
      rw [List.take_length] at hnl ⊢
      obtain ⟨z, hz⟩ : ∃ z : Int, (hexV 0 l : Int) = z := ⟨_, rfl⟩
      rw [hz]
      have HZ := Lib.hid hz
      clear hnl hp hx' HC hz
      go_wp2
      go_ret2
      exact ⟨(show _ = Ending.returned (Value.tuple #[.int .u64 z, .nilIface]) from rfl).trans (by rw [HZ.out]), HB.out⟩
set_option maxHeartbeats 4000000 in
set_option maxRecDepth 100000 in
theorem parseI16 (l : List UInt8) (h1 : l ≠ []) (h6 : l.length ≤ 6) (hx' : l.all isHex = true) (w : World) :
    Calls Tryz.prog 197 #[.string ⟨l.toArray⟩, .int .i64 16, .int .i64 64] w fun e w' => e = .returned (.tuple #[.int .i64 (hexV 0 l : Int), .nilIface]) ∧ Below w.heap.size w w' := by
  have hU := fun w => parseU16 l h1 h6 hx' w
  have hb := hexV_take_lt hx' l.length (Nat.le_refl _)
  have hp := hex_le6 h6
  rw [List.take_length] at hb
  obtain ⟨z, hz⟩ : ∃ z : Int, (hexV 0 l : Int) = z := ⟨_, rfl⟩
  have bz : 0 ≤ z ∧ z < 16777216 := by omega
  simp only [hz] at hU ⊢
  obtain ⟨c, r, rfl⟩ := List.exists_cons_of_ne_nil h1
  have hc : isHex c = true := by
    rw [List.all_cons, Bool.and_eq_true] at hx'
    exact hx'.1
  rw [isHex_iff] at hc
  have e1 := ba_nil (c :: r)
  rw [decide_eq_false h1] at e1
  have e2 := ba_size (c :: r)
  clear hb hp hz hx' h1 h6
  go_enter Tryz.func197, Tryz.ntmps197
  go_upto_region 5 with (fail)
  have eb : ∀ h, ((⟨(c :: r).toArray⟩ : ByteArray)[0]'h) = c := fun h => rfl
  simp only [eb]
  obtain ⟨x, hxx⟩ : ∃ x : Int, (c.toNat : Int) = x := ⟨_, rfl⟩
  rw [hxx]
  have g0 : (x == 43) = false := beq_eq_false_iff_ne.2 (by omega)
  have g1 : (x == 45) = false := beq_eq_false_iff_ne.2 (by omega)
  have g2 : decide ((9223372036854775808 : Int) ≤ z) = false := decide_eq_false (by omega)
  clear eb hxx hc e1 e2
  generalize (⟨(c :: r).toArray⟩ : ByteArray) = s at hU ⊢
  go_wp2_with (go_at_call 207; refine (hU _).mono ?_; rintro e w' ⟨rfl, hB⟩)
  go_ret2
  exact ⟨rfl, hB⟩
set_option maxHeartbeats 1000000 in
theorem parse16 (l : List UInt8) (h1 : l ≠ []) (h6 : l.length ≤ 6) (hx' : l.all isHex = true) (w : World) :
    Calls Tryz.prog 184 #[.string ⟨l.toArray⟩, .int .i64 16, .int .i64 64] w fun e w' => e = .returned (.tuple #[.int .i64 (hexV 0 l : Int), .nilIface]) ∧ Below w.heap.size w w' := by
  have hU := fun w => parseI16 l h1 h6 hx' w
  generalize (⟨l.toArray⟩ : ByteArray) = s at hU ⊢
  generalize (hexV 0 l : Int) = z at hU ⊢
  go_enter Tryz.func184, Tryz.ntmps184
  go_wp2_with (go_at_call 197; refine (hU _).mono ?_; rintro e w' ⟨rfl, hB⟩)
  go_ret2
  exact ⟨rfl, hB⟩
end Go.Proofs.Val
set_option linter.unusedVariables false
set_option linter.unusedSimpArgs false
namespace Go.Proofs.Val
open Go.RowKit Go.Proofs Go.Proofs.YtolfpgccebdlpaaGreatDoorW.PrintWords
theorem tz16 (w : World) (hT : Tbs w) : Calls Tryz.prog 203 #[.int .u64 16] w fun e w' => e = .returned (.int .i64 4) ∧ w' = w := by
  have hc := hT.tz
  have h64 : ∀ w, w.cell? ⟨7, 15, none⟩ = some (.int .u8 4) → Calls Tryz.prog 213 #[.int .u64 16] w fun e w' => e = .returned (.int .i64 4) ∧ w' = w := by
    intro w hc
    have hv : IntKind.u64.wrap (bits BinOp.and IntKind.u64 16 (IntKind.u64.wrap (-16)) * 285870213051353865) / 288230376151711744 = 15 := by decide
    go_enter Tryz.func213, Tryz.ntmps213
    go_wp2
    go_ret
    exact ⟨rfl, rfl⟩
  have h := h64 w hc
  go_enter Tryz.func203, Tryz.ntmps203
  go_wp2_with (go_at_call 213; refine (h).mono ?_; rintro e w' ⟨rfl, rfl⟩)
  go_ret
  exact ⟨rfl, rfl⟩
theorem pow16 (w : World) : Calls Tryz.prog 202 #[.int .i64 16] w fun e w' => e = .returned (.bool true) ∧ w' = w := by
  have hb0 : bits BinOp.and IntKind.i64 16 15 = 0 := by decide
  go_enter Tryz.func202, Tryz.ntmps202
  go_wp2
  go_ret
  exact ⟨rfl, rfl⟩
def hexD (v : Nat) : UInt8 := UInt8.ofNat (if v < 10 then 48 + v else 87 + v)
theorem and15 (x : Int) (h0 : 0 ≤ x) (h1 : x < 18446744073709551616) : bits .and .u64 x 15 = x % 16 := bits_mask .u64 64 (by decide) wraps_u64 4 (by decide) x h0 h1
/-- the cells when k digits are laid -/
def hv (U k j : Nat) : Int := if 65 - k ≤ j then ((hexD (U / 16 ^ (64 - j) % 16)).toNat : Int) else 0
def HxAt (U B : Nat) (w wr : World) (k : Nat) : Prop := (∀ j, j < 65 → wr.cell? ⟨B, j, none⟩ = some (.int .u8 (hv U k j)) ∧ wr.frozen? ⟨B, j, none⟩ = false) ∧ Below w.heap.size w wr
theorem HxAt.put {U B k : Nat} {w wr : World} (h : HxAt U B w wr k) (hB : w.heap.size ≤ B) (hk : k < 65) {v : Int} (hv' : v = ((hexD (U / 16 ^ k % 16)).toNat : Int)) : HxAt U B w (wr.setCell ⟨B, 64 - k, none⟩ (.int .u8 v)) (k + 1) := by
  refine ⟨fun j hj => ⟨?_, by rw [World.frozen?_setCell]; exact (h.1 j hj).2⟩, h.2.setCell (p := ⟨B, 64 - k, none⟩) hB _⟩
  by_cases e : j = 64 - k
  · subst e
    have e2 : hv U (k + 1) (64 - k) = v := by unfold hv; rw [if_pos (by omega), hv', show 64 - (64 - k) = k by omega]
    rw [e2]
    exact World.cell?_setCell_same' _ _ _ (by rw [(h.1 (64 - k) hj).1]; rfl)
  · have e2 : hv U (k + 1) j = hv U k j := by
      unfold hv
      by_cases h1 : 65 - k ≤ j
      · rw [if_pos h1, if_pos (by omega)]
      · rw [if_neg h1, if_neg (by omega)]
    rw [e2, ← (h.1 j hj).1]
    exact World.cell?_setCell_other _ _ _ _ (by intro q; injection q with _ q; exact e q.symm)
theorem dig36_fin : ∀ i : Fin 16, ((⟨#[48, 49, 50, 51, 52, 53, 54, 55, 56, 57, 97, 98, 99, 100, 101, 102, 103, 104, 105, 106, 107, 108, 109, 110, 111, 112, 113, 114, 115, 116, 117, 118, 119, 120, 121, 122]⟩ : ByteArray)[i.val]'(Nat.lt_of_lt_of_le i.2 (by decide))) = hexD i.val := by decide +kernel
theorem dig36 (v : Nat) (h : v < 16) (hh) : ((⟨#[48, 49, 50, 51, 52, 53, 54, 55, 56, 57, 97, 98, 99, 100, 101, 102, 103, 104, 105, 106, 107, 108, 109, 110, 111, 112, 113, 114, 115, 116, 117, 118, 119, 120, 121, 122]⟩ : ByteArray)[v]'hh) = hexD v := dig36_fin ⟨v, h⟩
theorem zero65 : Tryz.zeroCells231 = Array.replicate 65 (.int .u8 0) := by kernel_rfl
theorem HxAt.start (U : Nat) (w : World) : HxAt U w.heap.size w (w.alloc (.cells Tryz.zeroCells231 231)) 0 := by
  refine ⟨fun j hj => ⟨?_, ?_⟩, (Below.refl _ _).alloc (Nat.le_refl _) _⟩
  · rw [cell_of_row _ _ _ _ _ _ (heap_alloc_new _ _), zero65]
    have e : hv U 0 j = 0 := by unfold hv; rw [if_neg (by omega)]
    rw [e]
    simp [hj]
  · exact World.frozen?_alloc_at _ _ _ _ rfl
def hexL (n : Nat) : List UInt8 := [hexD (n / 16 ^ 5 % 16), hexD (n / 16 ^ 4 % 16), hexD (n / 16 ^ 3 % 16), hexD (n / 16 ^ 2 % 16), hexD (n / 16 % 16), hexD (n % 16)]
set_option maxHeartbeats 4000000 in
set_option maxRecDepth 1000000 in
theorem bits16 (n : Nat) (hn : n < 16777216) (w : World) (hT : Tbs w) :
    Calls Tryz.prog 188 #[.slice none 0 0, .int .u64 ((16777216 + n : Nat) : Int), .int .i64 16, .bool false, .bool false] w fun e w' => e = .returned (.tuple #[.slice none 0 0, .string ⟨(49 :: hexL n).toArray⟩]) ∧ Below w.heap.size w w' := by
  obtain ⟨U, hU⟩ : ∃ U, 16777216 + n = U := ⟨_, rfl⟩
  rw [hU]
  have HU := Lib.hid hU
  have hb1 : 16777216 ≤ U := by omega
  have hb2 : U < 33554432 := by omega
  have H0 := Lib.hid (HxAt.start U w)
  clear hU
  have hX := fun k v hv' => dig36 k v hv'
  go_enter Tryz.func188, Tryz.ntmps188
  go_wp2_with (first | (go_at_call 202; refine (pow16 _).mono ?_; rintro e w' ⟨rfl, rfl⟩) | (go_at_call 203; refine (tz16 _ (hT.below (by first | exact (Below.refl _ _).alloc (Nat.le_refl _) _ | exact Below.refl _ _))).mono ?_; rintro e w' ⟨rfl, rfl⟩))
  go_loopw [1, 13] (fun u i wr => ∃ k : Nat, k ≤ 6 ∧ i = .int .i64 ((65 - k : Nat) : Int) ∧ u = .int .u64 ((U / 16 ^ k : Nat) : Int) ∧ Hid (HxAt U w.heap.size w wr k)) (fun _ i _ => (RowKit.intOf i).toNat)
  case atStart => exact ⟨0, by omega, rfl, by simp, Lib.hid H0.out⟩
  case round =>
    obtain ⟨k, hk, rfl, rfl, H1⟩ := hrel
    clear H0 hT
    by_cases hlt : k < 6
    · have hp : 16 ≤ U / 16 ^ k := by
        have hq : 16 * 16 ^ k ≤ 16 ^ 6 := by rw [Nat.mul_comm, ← Nat.pow_succ]; exact Nat.pow_le_pow_right (by omega) (by omega)
        have h6 : (16 : Nat) ^ 6 = 16777216 := by decide
        exact (Nat.le_div_iff_mul_le (Nat.pow_pos (by omega))).2 (by omega)
      have hle : U / 16 ^ k < 33554432 := Nat.lt_of_le_of_lt (Nat.div_le_self _ _) hb2
      have HN := Lib.hid (show U / 16 ^ (k + 1) = U / 16 ^ k / 16 by rw [Nat.pow_succ, Nat.div_div_eq_div_mul])
      obtain ⟨c1, c2⟩ := H1.out.1 (64 - k) (by omega)
      obtain ⟨x, hx⟩ : ∃ x, U / 16 ^ k = x := ⟨_, rfl⟩
      have HX := Lib.hid hx
      rw [hx] at hp hle
      rw [hx]
      obtain ⟨i, hi⟩ : ∃ i, 64 - k = i := ⟨_, rfl⟩
      have HI := Lib.hid hi
      rw [hi] at c1 c2
      have e1 : 65 - k = i + 1 := by omega
      have hi65 : i < 65 := by omega
      rw [e1]
      clear e1 hi hx
      have ha := and15 (x : Int) (by omega) (by omega)
      have hd := fun h => hX (x % 16) (by omega) h
      clear hX
      go_wp2
      refine ⟨⟨k + 1, by omega, ?_, ?_, Lib.hid ?_⟩, by simp [RowKit.intOf]⟩
      · congr 1; have := HI.out; omega
      · rw [HN.out, HX.out]; congr 1
      · have hh := H1.out.put (Nat.le_refl _) (by omega) (v := ((hexD (x % 16)).toNat : Int)) (by rw [HX.out])
        rw [HI.out] at hh
        exact hh
    · obtain rfl : k = 6 := by omega
      have hq1 : U / 16 ^ 6 = 1 := by have h6 : (16 : Nat) ^ 6 = 16777216 := by decide
                                      rw [h6]; omega
      rw [hq1]
      have hd := fun h => hX 1 (by omega) h
      clear hX
      obtain ⟨c1, c2⟩ := H1.out.1 58 (by omega)
      have H2 := H1.out.put (Nat.le_refl _) (by omega) (v := ((hexD 1).toNat : Int)) (by rw [hq1])
      have hcv := run_convert_bytes_arg (P := Tryz.prog) (wr.setCell ⟨w.heap.size, 58, none⟩ (.int .u8 ((hexD 1).toNat : Int))) 97 5 Tryz.underlying97 Tryz.underlying5 w.heap.size 58 7 7 ((List.range 7).map fun i => hv U 7 (58 + i)) (by simp) (fun i hi => by rw [(H2.1 (58 + i) (by omega)).1]; simp [List.getD, hi]) 9 Tryz.underlying9
      have hB := Lib.hid H2.2
      have hs : strOfNums ((List.range 7).map fun i => hv U 7 (58 + i)) = ⟨(49 :: hexL n).toArray⟩ := by
        have h5 : (16 : Nat) ^ 5 = 1048576 := by decide
        have h4 : (16 : Nat) ^ 4 = 65536 := by decide
        have h3 : (16 : Nat) ^ 3 = 4096 := by decide
        have h2 : (16 : Nat) ^ 2 = 256 := by decide
        have h6 : (16 : Nat) ^ 6 = 16777216 := by decide
        have hU := HU.out
        have q : ∀ i, i < 7 → hv U 7 (58 + i) = ((hexD (U / 16 ^ (6 - i) % 16)).toNat : Int) := fun i hi => by unfold hv; rw [if_pos (by omega), show 64 - (58 + i) = 6 - i by omega]
        have o : ∀ c : UInt8, UInt8.ofNat ((c.toNat : Int)).toNat = c := fun c => by simp
        unfold strOfNums hexL
        congr 1
        have e7 : List.range 7 = [0, 1, 2, 3, 4, 5, 6] := rfl
        rw [e7]
        simp only [List.map_cons, List.map_nil]
        rw [q 0 (by omega), q 1 (by omega), q 2 (by omega), q 3 (by omega), q 4 (by omega), q 5 (by omega), q 6 (by omega)]
        simp only [o, Nat.reduceSub, Nat.pow_zero, Nat.pow_one, Nat.div_one, h2, h3, h4, h5, h6]
        rw [show U / 16777216 % 16 = 1 by omega, show U / 1048576 % 16 = n / 1048576 % 16 by omega, show U / 65536 % 16 = n / 65536 % 16 by omega, show U / 4096 % 16 = n / 4096 % 16 by omega, show U / 256 % 16 = n / 256 % 16 by omega, show U / 16 % 16 = n / 16 % 16 by omega, show U % 16 = n % 16 by omega]
        rfl
      rw [hs] at hcv
      clear H1 H2 hs hq1
      obtain ⟨S, hS⟩ : ∃ S : ByteArray, ⟨(49 :: hexL n).toArray⟩ = S := ⟨_, rfl⟩
      rw [hS] at hcv
      have HS := Lib.hid hS
      clear hS
      go_wp2
      go_ret2
      exact ⟨(show _ = Ending.returned (Value.tuple #[.slice none 0 0, .string S]) from rfl).trans (by rw [HS.out]), hB.out⟩
set_option maxHeartbeats 1000000 in
set_option maxRecDepth 100000 in
theorem fmt16 (n : Nat) (hn : n < 16777216) (w : World) (hT : Tbs w) :
    Calls Tryz.prog 121 #[.int .i64 ((16777216 + n : Nat) : Int), .int .i64 16] w fun e w' => e = .returned (.string ⟨(49 :: hexL n).toArray⟩) ∧ Below w.heap.size w w' := by
  have hF := fun w hT => bits16 n hn w hT
  have hn2 : ((16777216 + n : Nat) : Int) ≤ 33554432 := by omega
  have hn3 : 16777216 ≤ ((16777216 + n : Nat) : Int) := by omega
  generalize ((16777216 + n : Nat) : Int) = z at hF hn2 hn3 ⊢
  generalize (⟨(49 :: hexL n).toArray⟩ : ByteArray) = S at hF ⊢
  have hI : ∀ w, Tbs w → Calls Tryz.prog 149 #[.int .i64 z, .int .i64 16] w fun e w' => e = .returned (.string S) ∧ Below w.heap.size w w' := by
    intro w hT
    have hx := hF w hT
    have d0 : decide (z < 0) = false := decide_eq_false (by omega)
    have d1 : IntKind.u64.wrap z = z := wraps_u64 _ (by omega) (by omega)
    clear hF
    go_enter Tryz.func149, Tryz.ntmps149
    go_wp2_with (go_at_call 188; with_reducible refine (hx).mono ?_; rintro e w' ⟨rfl, hB⟩)
    go_ret
    exact ⟨rfl, hB⟩
  have hy := hI w hT
  clear hI hF
  go_enter Tryz.func121, Tryz.ntmps121
  go_wp2_with (go_at_call 149; refine (hy).mono ?_; rintro e w' ⟨rfl, hB⟩)
  go_ret
  exact ⟨rfl, hB⟩
end Go.Proofs.Val
set_option linter.unusedVariables false
set_option linter.unusedSimpArgs false
namespace Go.Proofs.Val
open Go.RowKit Go.Maps Go.Proofs Go.Proofs.YtolfpgccebdlpaaGreatDoorW.PrintWords
theorem trim_nil (cs : List UInt8) (p : UInt8 → Bool) (hp : ∀ c, cs.contains c = p c) (l : List UInt8) : Lib.trimS l cs = [] ↔ l.all p = true := by
  have e : ∀ l : List UInt8, l.dropWhile (cs.contains ·) = l.dropWhile p := fun l => by
    congr 1; funext c; exact hp c
  unfold Lib.trimS Lib.trimLeftS Lib.trimRightS
  rw [e, e, dropWhile_nil, List.all_reverse]
  constructor
  · intro h
    have := dropWhile_sub _ h
    rwa [List.all_reverse] at this
  · intro h
    have : l.reverse.dropWhile p = [] := dropWhile_nil.2 (by rw [List.all_reverse]; exact h)
    rw [this]; rfl
def hexW : List UInt8 := [48, 49, 50, 51, 52, 53, 54, 55, 56, 57, 97, 98, 99, 100, 101, 102]
theorem hex_contains (c : UInt8) : hexW.contains c = isHex c := u8_all (P := fun c => hexW.contains c = isHex c) (by decide +kernel) c
theorem trim_hex (l : List UInt8) (w : World) (hs : l.length < 4294967281) :
    Calls Tryz.prog 132 #[.string ⟨l.toArray⟩, .string ⟨#[48, 49, 50, 51, 52, 53, 54, 55, 56, 57, 97, 98, 99, 100, 101, 102]⟩] w fun e w' => e = .returned (.string ⟨(Lib.trimS l hexW).toArray⟩) ∧ Below w.heap.size w w' :=
  Any.strings_Trim_laid Tryz.lays160 (by kernel_rfl) ⟨l.toArray⟩ ⟨#[48, 49, 50, 51, 52, 53, 54, 55, 56, 57, 97, 98, 99, 100, 101, 102]⟩ w (by show l.length ≤ _; omega) (by decide) (ascii_all (by decide))
theorem lawS : Keyed Tryz.prog 9 := string_keyed Tryz.underlying9
theorem keyOf_str {s : ByteArray} (hs : s.size ≤ maxLen) : keyOf Tryz.prog 9 (.string s) = some (.string s.data.toList) := by
  simp [keyOf, Tryz.underlying9, mapKey, hs]
theorem wpList_insert_own {P : Program} (w : World) {ops : Array Oper} {rest : List Oper} {o : Oper} {a : Act} {Q : Exit → Act → World → Prop}
    (hg : o.guard = none) (m x v : Operand) (t : TypeId) (hop : o.op = Op.insert t m x v)
    (k e : TypeId) (K : Keyed P k) (ht : P.underlying t = some (.map k e)) (R : Value → Option (DataW Unit × List MemPlace)) (b n : Nat) (D : DataW Unit)
    (hm : a.eval m = .map (some b)) (hown : w.ownsMap P k R b n D) (hn : n < maxLen) (key val : Value) (kl : Lit) (hx : a.eval x = key) (hv : a.eval v = val) (hkey : keyOf P k key = some kl)
    (d : DataW Unit) (ps : List MemPlace) (hval : R val = some (d, ps))
    (hK : ∀ w', w'.ownsMap P k R b (n + 1) (D.put kl d) → w.grownBy w' (some b) → wpList P ops Q rest (a.put o.dst undef) w') :
    wpList P ops Q (o :: rest) a w := by
  refine wpList_plain hg fun K' hK' => ?_
  obtain ⟨w', hrun, r1, r2⟩ := hown.update K ht hn hkey hval
  unfold Oper.wp
  simp [execOp, hop, hm, hx, hv, hrun, Result.andThen]
  exact hK' _ _ (hK w' r1 r2)
theorem made_own (w : World) : (w.alloc (.map #[] 0)).ownsMap Tryz.prog 9 (plainElem (H := Unit) Tryz.prog 2) w.heap.size 0 (.map []) := World.ownsMap_made _ _ _ _
def kBlack : List UInt8 := [98, 108, 97, 99, 107]
def kWhite : List UInt8 := [119, 104, 105, 116, 101]
def kRed : List UInt8 := [114, 101, 100]
def kGreen : List UInt8 := [103, 114, 101, 101, 110]
def kBlue : List UInt8 := [98, 108, 117, 101]
abbrev i64L (n : Int) : DataW Unit := .lit (.int .i64 n)
theorem i64L_inj {a b : Int} (h : i64L a = i64L b) : a = b := by simpa [i64L] using h
def colD : DataW Unit := (((((DataW.map []).put (.string kBlack) (i64L 0)).put (.string kWhite) (i64L 16777215)).put (.string kRed) (i64L 16711680)).put (.string kGreen) (i64L 32768)).put (.string kBlue) (i64L 255)
def namC (l : List UInt8) : Option Int := if l = kBlue then some 255 else if l = kGreen then some 32768 else if l = kRed then some 16711680 else if l = kWhite then some 16777215 else if l = kBlack then some 0 else none
def hexOk (l : List UInt8) : Bool := Lib.hasPrefix l [35] && (decide ((Lib.trimPrefix l [35]).length = 6) && (Lib.trimPrefix l [35]).all isHex)
def colOk (l : List UInt8) : Bool := (namC l).isSome || hexOk l
def colN (l : List UInt8) : Int := match namC l with | some n => n | none => if hexOk l = true then (hexV 0 (Lib.trimPrefix l [35]) : Int) else 0
theorem ismap_put {D : DataW Unit} (h : IsMap D) (k : Lit) (d : DataW Unit) : IsMap (D.put k d) := by
  obtain ⟨es, rfl⟩ := h
  exact ⟨_, rfl⟩
theorem col_at (l : List UInt8) : colD.atKey (.string l) (i64L 0) = i64L ((namC l).getD 0) ∧ Maps.has colD (.string l) = (namC l).isSome := by
  have m0 : IsMap (DataW.map ([] : List (Lit × DataW Unit))) := ⟨_, rfl⟩
  have m1 := ismap_put m0 (.string kBlack) (i64L 0)
  have m2 := ismap_put m1 (.string kWhite) (i64L 16777215)
  have m3 := ismap_put m2 (.string kRed) (i64L 16711680)
  have m4 := ismap_put m3 (.string kGreen) (i64L 32768)
  have kl : ∀ l, WideAt.IsKeyLit (.string l) := fun l => trivial
  have ne : ∀ {a b : List UInt8}, a ≠ b → (Lit.string a) ≠ (Lit.string b) := fun h e => h (by injection e)
  unfold colD namC
  by_cases h5 : l = kBlue
  · rw [if_pos h5, h5, atKey_put_same m4 (kl _), has_put_same m4 (kl _)]; exact ⟨rfl, rfl⟩
  · rw [if_neg h5, atKey_put_other (ne h5), has_put_other (ne h5)]
    by_cases h4 : l = kGreen
    · rw [if_pos h4, h4, atKey_put_same m3 (kl _), has_put_same m3 (kl _)]; exact ⟨rfl, rfl⟩
    · rw [if_neg h4, atKey_put_other (ne h4), has_put_other (ne h4)]
      by_cases h3 : l = kRed
      · rw [if_pos h3, h3, atKey_put_same m2 (kl _), has_put_same m2 (kl _)]; exact ⟨rfl, rfl⟩
      · rw [if_neg h3, atKey_put_other (ne h3), has_put_other (ne h3)]
        by_cases h2 : l = kWhite
        · rw [if_pos h2, h2, atKey_put_same m1 (kl _), has_put_same m1 (kl _)]; exact ⟨rfl, rfl⟩
        · rw [if_neg h2, atKey_put_other (ne h2), has_put_other (ne h2)]
          by_cases h1 : l = kBlack
          · rw [if_pos h1, h1, atKey_put_same m0 (kl _), has_put_same m0 (kl _)]; exact ⟨rfl, rfl⟩
          · rw [if_neg h1, atKey_put_other (ne h1), has_put_other (ne h1)]; exact ⟨rfl, rfl⟩
set_option maxHeartbeats 4000000 in
set_option maxRecDepth 100000 in
theorem colorC (l : List UInt8) (w : World) (hs : l.length < 4294967281) :
    Calls Tryz.prog 176 #[.string ⟨l.toArray⟩] w fun e w' => e = .returned (.tuple #[.int .i64 (colN l), .bool (colOk l)]) ∧ Below w.heap.size w w' := by
  have hmm := @run_makeMap Tryz.prog
  have hown := made_own w
  have hb0 : Below w.heap.size w (w.alloc (.map #[] 0)) := (Below.refl _ _).alloc (Nat.le_refl _) _
  obtain ⟨s, hS⟩ : ∃ s : ByteArray, ⟨l.toArray⟩ = s := ⟨_, rfl⟩
  have hl : s.data.toList = l := by rw [← hS]
  have hP := fun w => Tryz.strings_CutPrefix s ⟨#[35]⟩ w
  have hT := fun w => trim_hex (Lib.trimPrefix l [35]) w (by have := trimPrefix_len l [35]; omega)
  rw [hl, show (⟨#[35]⟩ : ByteArray).data.toList = [35] from rfl] at hP
  have hkey := keyOf_str (s := s) (by rw [← hS]; show l.length ≤ maxLen; unfold maxLen; omega)
  rw [hl] at hkey
  rw [hS]
  clear hS hl
  go_enter Tryz.func176, Tryz.ntmps176
  go_upto_region 2 with (refine wpList_insert_own _ rfl _ _ _ 224 rfl 9 2 lawS Tryz.underlying224 (plainElem (H := Unit) Tryz.prog 2) w.heap.size _ _ rfl (by assumption) (by decide) _ _ _ rfl rfl (keyOf_str (by decide)) _ [] (plainElem_int Tryz.underlying2 (by decide)) ?_; intro w1 hown hgrow; replace hb0 := hb0.grown hgrow hb0.size (fun j e => by cases e; exact Nat.le_refl _); clear hgrow)
  have hown : w1.ownsMap Tryz.prog 9 (plainElem (H := Unit) Tryz.prog 2) w.heap.size 5 colD := hown
  obtain ⟨q1, q2⟩ := col_at l
  have HO := Lib.hid hown
  have HB := Lib.hid hb0
  clear hb0 hmm
  clear hown
  go_upto_region 3 with (refine wpList_lookup_own_ok_int _ rfl _ _ 224 rfl 9 2 .i64 lawS Tryz.underlying224 Tryz.underlying2 (by kernel_rfl) w.heap.size 5 colD rfl HO.out _ _ rfl hkey ?_; intro c hat hwc; rw [q1] at hat; rw [q2]; rw [← i64L_inj hat]; clear hat hwc)
  obtain ⟨o, ho⟩ : ∃ o, namC l = o := ⟨_, rfl⟩
  rw [ho]
  clear q1 q2 HO hkey
  cases o with
  | some n =>
    have HK := Lib.hid (show colN l = n ∧ colOk l = true from ⟨by unfold colN; rw [ho], by unfold colOk; rw [ho]; rfl⟩)
    clear ho hP hT hs
    go_wp2
    go_ret2
    exact ⟨(show _ = Ending.returned (Value.tuple #[.int .i64 n, .bool true]) from rfl).trans (by rw [HK.out.1, HK.out.2]), HB.out⟩
  | none =>
    have HA := Lib.hid (show colOk l = (Lib.hasPrefix l [35] && (decide ((Lib.trimPrefix l [35]).length = 6) && (Lib.trimPrefix l [35]).all isHex)) by unfold colOk hexOk; rw [ho]; rfl)
    have HN := Lib.hid (show colN l = if colOk l = true then (hexV 0 (Lib.trimPrefix l [35]) : Int) else 0 by unfold colN colOk; rw [ho]; rfl)
    have hlen := trimPrefix_len l [35]
    obtain ⟨rest, hr⟩ : ∃ r, Lib.trimPrefix l [35] = r := ⟨_, rfl⟩
    obtain ⟨bl, hb⟩ : ∃ r, Lib.hasPrefix l [35] = r := ⟨_, rfl⟩
    have htn := trim_nil hexW isHex hex_contains rest
    rw [hr, hb] at HA
    rw [hr] at HN
    simp only [hr, hb] at hP hT hlen
    clear ho hr hb
    cases bl with
    | false =>
      have HK := Lib.hid (show colOk l = false ∧ colN l = 0 from ⟨by rw [HA.out]; rfl, by rw [HN.out, show colOk l = false by rw [HA.out]; rfl]; rfl⟩)
      clear HA HN hT htn hs hlen
      go_wp2_with (go_at_call 182; refine (hP _).mono ?_; rintro e w' ⟨rfl, rfl⟩)
      go_ret2
      exact ⟨(show _ = Ending.returned (Value.tuple #[.int .i64 0, .bool false]) from rfl).trans (by rw [HK.out.1, HK.out.2]), HB.out⟩
    | true =>
      have BAD : ∀ (_ : colOk l = false), Hid (colOk l = false ∧ colN l = 0) := fun h => Lib.hid ⟨h, by rw [HN.out, h]; rfl⟩
      have e4 := ba_nil (Lib.trimS rest hexW)
      by_cases h6 : rest.length = 6
      · have d6 : ((rest.length : Int) != 6) = false := by rw [h6]; rfl
        by_cases hh : rest.all isHex = true
        · rw [decide_eq_true (htn.2 hh)] at e4
          have hI := fun w => parse16 rest (fun e => by rw [e] at h6; cases h6) (by omega) hh w
          have HK := Lib.hid (show colOk l = true ∧ colN l = (hexV 0 rest : Int) from by
            have e : colOk l = true := by rw [HA.out, decide_eq_true h6, hh]; rfl
            exact ⟨e, by rw [HN.out, e]; rfl⟩)
          clear HA HN htn hs hlen hh h6 BAD
          generalize (Lib.trimS rest hexW) = tr at hT e4
          generalize (⟨tr.toArray⟩ : ByteArray) = tb at hT e4
          generalize (hexV 0 rest : Int) = z at hI HK
          go_wp2_with (first | (go_at_call 182; refine (hP _).mono ?_; rintro e w' ⟨rfl, rfl⟩) | (go_at_call 132; refine (hT _).mono ?_; rintro e w2 ⟨rfl, hB2⟩) | (go_at_call 184; refine (hI _).mono ?_; rintro e w3 ⟨rfl, hB3⟩))
          go_quiet (fail)
          go_wp2
          go_ret2
          have q2 := below_then HB.out HB.out.size hB2
          have q3 := below_then q2 q2.size hB3
          exact ⟨(show _ = Ending.returned (Value.tuple #[.int .i64 z, .bool true]) from rfl).trans (by rw [HK.out.1, HK.out.2]), pw_below_drewN q3 nq⟩
        · rw [decide_eq_false (fun e => hh (htn.1 e))] at e4
          have HK := BAD (by rw [HA.out, Bool.eq_false_iff.2 hh]; simp)
          clear HA HN htn hs hlen hh h6 BAD
          generalize (Lib.trimS rest hexW) = tr at hT e4
          generalize (⟨tr.toArray⟩ : ByteArray) = tb at hT e4
          go_wp2_with (first | (go_at_call 182; refine (hP _).mono ?_; rintro e w' ⟨rfl, rfl⟩) | (go_at_call 132; refine (hT _).mono ?_; rintro e w2 ⟨rfl, hB2⟩))
          go_ret2
          exact ⟨(show _ = Ending.returned (Value.tuple #[.int .i64 0, .bool false]) from rfl).trans (by rw [HK.out.1, HK.out.2]), below_then HB.out HB.out.size hB2⟩
      · have d6 : ((rest.length : Int) != 6) = true := bne_iff_ne.2 (by omega)
        have HK := BAD (by rw [HA.out, decide_eq_false h6]; rfl)
        clear HA HN htn hs hlen h6 BAD hT e4
        go_wp2_with (go_at_call 182; refine (hP _).mono ?_; rintro e w' ⟨rfl, rfl⟩)
        go_ret2
        exact ⟨(show _ = Ending.returned (Value.tuple #[.int .i64 0, .bool false]) from rfl).trans (by rw [HK.out.1, HK.out.2]), HB.out⟩
end Go.Proofs.Val
set_option linter.unusedVariables false
set_option linter.unusedSimpArgs false
namespace Go.Proofs.Scn
open Go.RowKit Go.Lib Go.Proofs.YtolfpgccebdlpaaGreatDoorW.PrintWords
end Go.Proofs.Scn
namespace Go.Proofs.Val
open Go.RowKit Go.Proofs Go.Proofs.YtolfpgccebdlpaaGreatDoorW.PrintWords
theorem mayV_zero (k n : Int) : mayV 0 k n = false := by
  have e1 : (rec0 0).auto = false := rfl
  have e2 : (rec0 0).length = false := rfl
  have e3 : (rec0 0).part = false := rfl
  have e4 : (rec0 0).color = false := rfl
  have e5 : (rec0 0).number = false := rfl
  have e6 : (rec0 0).wn = 0 := rfl
  unfold mayV
  rw [e1, e2, e3, e4, e5, e6]
  split
  · rfl
  split
  · rfl
  split
  · rfl
  split
  · rfl
  split
  · by_cases h : 0 ≤ n
    · rw [decide_eq_true h, decide_eq_false (by omega)]; rfl
    · rw [decide_eq_false h]; rfl
  split <;> rfl
theorem recA0 (wa : Option Addr) : recV (recA 0 wa) = .agg #[.string ⟨#[]⟩, .bool false, .bool false, .bool false, .bool false, .bool false, .bool false, .slice wa 0 0, .int .i64 0, .int .i64 0] := rfl
set_option maxHeartbeats 2000000 in
theorem mayOut (p : Int) (hp : ¬ (1 ≤ p ∧ p ≤ 26)) (k n : Int) (w : World) :
    Calls Tryz.prog 74 #[.int .i64 p, .agg #[.int .i64 k, .int .i64 n]] w fun e w' => e = .returned (.bool false) ∧ Below w.heap.size w w' := by
  have hO := fun w => ofP p w
  simp only [cl_out hp, decide_eq_false hp, recA0] at hO
  clear hp
  go_enter Tryz.func74, Tryz.ntmps74
  go_upto_region 3 with (first | (go_at_call 116; refine (hO _).mono ?_; rintro e w1 ⟨wa, rfl, hS, hB⟩; clear hS; obtain ⟨hc, hf⟩ := bcell hB; have hz : w.heap.size < w1.heap.size := by (have hs := hB.size; rw [alloc_size] at hs; omega)))
  have p1 : Below w.heap.size w w1 := ((Below.refl _ _).alloc (Nat.le_refl _) _).trans (hB.mono (by rw [alloc_size]; omega))
  have P1 := Lib.hid (below_alloc p1 (.cells #[.string ⟨#[]⟩, .bool false, .bool false, .bool false, .bool false, .bool false, .bool false, .slice wa 0 0, .int .i64 0, .int .i64 0] 163))
  clear hB p1 hO
  go_upto_region 5 with fail
  by_cases k1 : k = 1
  · subst k1
    go_wp2
    go_ret
    exact ⟨rfl, P1.out⟩
  have f1 : (k == 1) = false := by simp [k1]
  by_cases k2 : k = 2
  · subst k2
    go_wp2; go_quiet (fail); go_wp2
    go_ret
    exact ⟨rfl, pw_below_drewN P1.out _⟩
  have f2 : (k == 2) = false := by simp [k2]
  by_cases k3 : k = 3
  · subst k3
    go_wp2; go_quiet (fail); go_wp2
    go_ret
    exact ⟨rfl, pw_below_drewN P1.out _⟩
  have f3 : (k == 3) = false := by simp [k3]
  by_cases k4 : k = 4
  · subst k4
    go_wp2
    go_ret
    exact ⟨rfl, P1.out⟩
  have f4 : (k == 4) = false := by simp [k4]
  by_cases k5 : k = 5
  · subst k5
    by_cases ha : (0 : Int) ≤ n
    · have ga : decide ((0 : Int) ≤ n) = true := decide_eq_true ha
      have gb : decide (n < (0 : Int)) = false := decide_eq_false (by omega)
      go_wp2
      go_ret
      exact ⟨rfl, P1.out⟩
    · have ga : decide ((0 : Int) ≤ n) = false := decide_eq_false ha
      go_wp2
      go_ret
      exact ⟨rfl, P1.out⟩
  have f5 : (k == 5) = false := by simp [k5]
  by_cases k6 : k = 6
  · subst k6
    go_wp2; go_quiet (fail); go_wp2
    go_ret
    exact ⟨rfl, pw_below_drewN P1.out _⟩
  have f6 : (k == 6) = false := by simp [k6]
  go_wp2
  go_ret
  exact ⟨rfl, P1.out⟩
theorem mayP (p k n : Int) (w : World) :
    Calls Tryz.prog 74 #[.int .i64 p, .agg #[.int .i64 k, .int .i64 n]] w fun e w' => e = .returned (.bool (mayV (cl p) k n)) ∧ Below w.heap.size w w' := by
  by_cases hp : 1 ≤ p ∧ p ≤ 26
  · obtain ⟨q, rfl⟩ : ∃ q : Nat, p = (q : Int) := ⟨p.toNat, by omega⟩
    rw [cl_in hp.1 hp.2, Int.toNat_natCast]
    exact mayC q (by omega) (by omega) k n w
  · rw [cl_out hp, mayV_zero]
    exact mayOut p hp k n w
end Go.Proofs.Val
set_option linter.unusedVariables false
set_option linter.unusedSimpArgs false
namespace Go.Proofs.Val
open Go.RowKit Go.Proofs Go.Proofs.YtolfpgccebdlpaaGreatDoorW.PrintWords
def autoW : List UInt8 := [97, 117, 116, 111]
def anyR (au le pa co nu : Bool) (ws : List ByteArray) (l : List UInt8) : (Int × Int) × Bool :=
  if 0 ≤ Lib.idxOfS ws ⟨l.toArray⟩ then ((5, Lib.idxOfS ws ⟨l.toArray⟩), true)
  else if (au && decide (l = autoW)) = true then ((1, 0), true)
  else if (le && decide (l = [48])) = true then ((2, 0), true)
  else if co = true then ((4, colN l), colOk l)
  else if (le && measOk l [112, 120]) = true then (measV l [112, 120] 2, true)
  else if pa = true then (measV l [37] 3, measOk l [37])
  else if nu = true then (measV l [] 6, measOk l [])
  else ((0, 0), false)
theorem beq_dec (l m : List UInt8) : (l == m) = decide (l = m) := by
  by_cases h : l = m
  · rw [decide_eq_true h, h]; simp
  · rw [decide_eq_false h]; exact beq_eq_false_iff_ne.2 h
theorem idxS_bd (ws : List ByteArray) (s : ByteArray) : -1 ≤ Lib.idxOfS ws s ∧ Lib.idxOfS ws s < ws.length + 1 := by
  have := idxFrom_bd s ws 0
  unfold Lib.idxOfS
  omega
set_option maxHeartbeats 8000000 in
set_option maxRecDepth 100000 in
theorem anyC (nm : ByteArray) (au le pa be co nu : Bool) (wa : Option Addr) (ws : List ByteArray) (kk nn : Int) (l : List UInt8) (w : World) (hw : WordsIn w wa ws) (hws : ws.length ≤ 4) (hs : l.length < 4294967281) :
    Calls Tryz.prog 145 #[.agg #[.string nm, .bool au, .bool le, .bool pa, .bool be, .bool co, .bool nu, .slice wa ws.length ws.length, .int .i64 kk, .int .i64 nn], .string ⟨l.toArray⟩] w fun e w' =>
      e = .returned (.tuple #[.agg #[.int .i64 (anyR au le pa co nu ws l).1.1, .int .i64 (anyR au le pa co nu ws l).1.2], .bool (anyR au le pa co nu ws l).2]) ∧ Below w.heap.size w w' := by
  have hI : ∀ W, Below w.heap.size w W → Calls Tryz.prog 175 #[.slice wa ws.length ws.length, .string ⟨l.toArray⟩] W fun e w' => e = .returned (.int .i64 (Lib.idxOfS ws ⟨l.toArray⟩)) ∧ w' = W := by
    intro W hW
    rcases (hw.below hW).at_ with rfl | ⟨b, rfl, hc⟩
    · exact Tryz.slices_Index_string_empty wa 0 _ W
    · have := Tryz.slices_Index_string b 0 ws.length ws.length ws ⟨l.toArray⟩ W (Nat.le_refl _) (by omega) hc
      rwa [List.take_length] at this
  have hCol := fun w => colorC l w hs
  have hPx := fun w => measureC l [112, 120] 2 w hs
  have hPc := fun w => measureC l [37] 3 w hs
  have hNu := fun w => measureC l [] 6 w hs
  have hR := Lib.hid (show anyR au le pa co nu ws l = (if 0 ≤ Lib.idxOfS ws ⟨l.toArray⟩ then ((5, Lib.idxOfS ws ⟨l.toArray⟩), true)
    else if (au && decide (l = autoW)) = true then ((1, 0), true)
    else if (le && decide (l = [48])) = true then ((2, 0), true)
    else if co = true then ((4, colN l), colOk l)
    else if (le && measOk l [112, 120]) = true then (measV l [112, 120] 2, true)
    else if pa = true then (measV l [37] 3, measOk l [37])
    else if nu = true then (measV l [] 6, measOk l [])
    else ((0, 0), false)) from rfl)
  have hbd := idxS_bd ws ⟨l.toArray⟩
  have hqx : measOk l [112, 120] = true → (measV l [112, 120] 2).1 = 2 := fun h => by unfold measV; rw [if_pos h]
  obtain ⟨i, hi⟩ : ∃ i, Lib.idxOfS ws ⟨l.toArray⟩ = i := ⟨_, rfl⟩
  obtain ⟨⟨⟨ra, rb⟩, rc⟩, hr⟩ : ∃ r, anyR au le pa co nu ws l = r := ⟨_, rfl⟩
  have ea : ((⟨l.toArray⟩ : ByteArray).toList == [97, 117, 116, 111]) = decide (l = autoW) := by rw [Lib.toList_data]; exact beq_dec _ _
  have ez : ((⟨l.toArray⟩ : ByteArray).toList == [48]) = decide (l = [48]) := by rw [Lib.toList_data]; exact beq_dec _ _
  obtain ⟨qa, hqa⟩ : ∃ q, decide (l = autoW) = q := ⟨_, rfl⟩
  obtain ⟨qz, hqz⟩ : ∃ q, decide (l = [48]) = q := ⟨_, rfl⟩
  obtain ⟨cN, hcN⟩ : ∃ q, colN l = q := ⟨_, rfl⟩
  obtain ⟨cB, hcB⟩ : ∃ q, colOk l = q := ⟨_, rfl⟩
  obtain ⟨⟨xa, xb⟩, hxV⟩ : ∃ q, measV l [112, 120] 2 = q := ⟨_, rfl⟩
  obtain ⟨xB, hxB⟩ : ∃ q, measOk l [112, 120] = q := ⟨_, rfl⟩
  obtain ⟨⟨pA, pb⟩, hpV⟩ : ∃ q, measV l [37] 3 = q := ⟨_, rfl⟩
  obtain ⟨pB, hpB⟩ : ∃ q, measOk l [37] = q := ⟨_, rfl⟩
  obtain ⟨⟨ua, ub⟩, huV⟩ : ∃ q, measV l [] 6 = q := ⟨_, rfl⟩
  obtain ⟨uB, huB⟩ : ∃ q, measOk l [] = q := ⟨_, rfl⟩
  have hRR := hR.out
  rw [hr, hi, hqa, hqz, hcN, hcB, hxV, hxB, hpV, hpB, huV, huB] at hRR
  rw [hr]
  simp only [hi] at hI
  rw [hi] at hbd
  simp only [hcN, hcB] at hCol
  simp only [hxV, hxB] at hPx
  simp only [hpV, hpB] at hPc
  simp only [huV, huB] at hNu
  rw [hqa] at ea
  rw [hqz] at ez
  clear hR hr hi hqa hqz hcN hcB hxV hxB hpV hpB huV huB hw hqx hs
  generalize (⟨l.toArray⟩ : ByteArray) = s at hI hCol hPx hPc hNu ea ez ⊢
  obtain ⟨n, hn⟩ : ∃ n, ws.length = n := ⟨_, rfl⟩
  rw [hn] at hI hbd hws ⊢
  clear hn
  by_cases h0 : 0 ≤ i
  · skip
    have d0 : decide (0 ≤ i) = true := decide_eq_true h0
    have HK := Lib.hid (show (ra, rb, rc) = ((5 : Int), (i : Int), true) from by simp only [h0, if_true, if_false, Bool.and_true, Bool.and_false, Bool.true_and, Bool.false_and, Bool.false_eq_true, Prod.mk.injEq] at hRR ⊢; obtain ⟨⟨a, b⟩, c⟩ := hRR; exact ⟨a, b, c⟩)
    obtain ⟨r1, r2, r3⟩ : ra = _ ∧ rb = _ ∧ rc = _ := ⟨(Prod.mk.inj HK.out).1, (Prod.mk.inj (Prod.mk.inj HK.out).2).1, (Prod.mk.inj (Prod.mk.inj HK.out).2).2⟩
    subst r1 r2 r3
    clear HK hRR
    go_enter Tryz.func145, Tryz.ntmps145
    go_wp2_with (first | (go_at_call 175; refine (hI _ (by exact ((Below.refl _ _).alloc (Nat.le_refl _) _).alloc (by simp) _)).mono ?_; rintro e w' ⟨rfl, rfl⟩))
    refine bodyPost_ret (v := .tuple #[.agg #[.int .i64 (5), .int .i64 (rb)], .bool true]) (by simp [results, Tryz.results145, go_sem]) rfl ⟨rfl, ?_⟩
    first | exact ((Below.refl _ _).alloc (Nat.le_refl _) _).alloc (by simp) _ | exact ((((Below.refl _ _).alloc (Nat.le_refl _) _).alloc (by simp) _).setCell (by simp) _).setCell (by simp) _
  have d0 : decide (0 ≤ i) = false := decide_eq_false h0
  cases au with
  | false =>
    cases le with
    | false =>
      cases co with
      | true =>
        have HK := Lib.hid (show (ra, rb, rc) = ((4 : Int), (cN : Int), cB) from by simp only [h0, if_true, if_false, Bool.and_true, Bool.and_false, Bool.true_and, Bool.false_and, Bool.false_eq_true, Prod.mk.injEq] at hRR ⊢; obtain ⟨⟨a, b⟩, c⟩ := hRR; exact ⟨a, b, c⟩)
        obtain ⟨r1, r2, r3⟩ : ra = _ ∧ rb = _ ∧ rc = _ := ⟨(Prod.mk.inj HK.out).1, (Prod.mk.inj (Prod.mk.inj HK.out).2).1, (Prod.mk.inj (Prod.mk.inj HK.out).2).2⟩
        subst r1 r2 r3
        clear HK hRR
        go_enter Tryz.func145, Tryz.ntmps145
        go_wp2_with (first | (go_at_call 175; refine (hI _ (by exact ((Below.refl _ _).alloc (Nat.le_refl _) _).alloc (by simp) _)).mono ?_; rintro e w' ⟨rfl, rfl⟩) | (go_at_call 176; refine (hCol _).mono ?_; rintro e w1 ⟨rfl, hB1⟩; obtain ⟨hc, hf⟩ := bcell hB1; have hz : w.heap.size + 1 < w1.heap.size := (by have hs := hB1.size; simp at hs; omega); have hy : w.heap.size < w1.heap.size := (by omega)))
        refine bodyPost_ret (v := .tuple #[.agg #[.int .i64 (4), .int .i64 (rb)], .bool rc]) (by simp [results, Tryz.results145, go_sem, hc, hz]) rfl ⟨rfl, ?_⟩
        have p1 : Below w.heap.size w w1 := (((Below.refl _ _).alloc (Nat.le_refl _) _).alloc (by simp) _).trans (hB1.mono (by first | (simp; done) | (simp; omega)))
        first | exact (p1.setCell (by simp) _).setCell (by simp) _ | exact ((below_alloc p1 _).setCell (by simp) _).setCell (by simp) _ | exact below_alloc ((p1.setCell (by simp) _).setCell (by simp) _) _
      | false =>
        cases pa with
        | true =>
          have HK := Lib.hid (show (ra, rb, rc) = ((pA : Int), (pb : Int), pB) from by simp only [h0, if_true, if_false, Bool.and_true, Bool.and_false, Bool.true_and, Bool.false_and, Bool.false_eq_true, Prod.mk.injEq] at hRR ⊢; obtain ⟨⟨a, b⟩, c⟩ := hRR; exact ⟨a, b, c⟩)
          obtain ⟨r1, r2, r3⟩ : ra = _ ∧ rb = _ ∧ rc = _ := ⟨(Prod.mk.inj HK.out).1, (Prod.mk.inj (Prod.mk.inj HK.out).2).1, (Prod.mk.inj (Prod.mk.inj HK.out).2).2⟩
          subst r1 r2 r3
          clear HK hRR
          go_enter Tryz.func145, Tryz.ntmps145
          go_wp2_with (first | (go_at_call 175; refine (hI _ (by exact ((Below.refl _ _).alloc (Nat.le_refl _) _).alloc (by simp) _)).mono ?_; rintro e w' ⟨rfl, rfl⟩) | (go_at_call 177; with_reducible refine (hPc _).mono ?_; rintro e w1 ⟨rfl, hB1⟩; obtain ⟨hc, hf⟩ := bcell hB1; have hz : w.heap.size + 1 < w1.heap.size := (by have hs := hB1.size; simp at hs; omega); have hy : w.heap.size < w1.heap.size := (by omega)))
          refine bodyPost_ret (v := .tuple #[.agg #[.int .i64 (ra), .int .i64 (rb)], .bool rc]) (by simp [results, Tryz.results145, go_sem, hc, hz]) rfl ⟨rfl, ?_⟩
          have p1 : Below w.heap.size w w1 := (((Below.refl _ _).alloc (Nat.le_refl _) _).alloc (by simp) _).trans (hB1.mono (by first | (simp; done) | (simp; omega)))
          first | exact (p1.setCell (by simp) _).setCell (by simp) _ | exact ((below_alloc p1 _).setCell (by simp) _).setCell (by simp) _ | exact below_alloc ((p1.setCell (by simp) _).setCell (by simp) _) _
        | false =>
          cases nu with
          | true =>
            have HK := Lib.hid (show (ra, rb, rc) = ((ua : Int), (ub : Int), uB) from by simp only [h0, if_true, if_false, Bool.and_true, Bool.and_false, Bool.true_and, Bool.false_and, Bool.false_eq_true, Prod.mk.injEq] at hRR ⊢; obtain ⟨⟨a, b⟩, c⟩ := hRR; exact ⟨a, b, c⟩)
            obtain ⟨r1, r2, r3⟩ : ra = _ ∧ rb = _ ∧ rc = _ := ⟨(Prod.mk.inj HK.out).1, (Prod.mk.inj (Prod.mk.inj HK.out).2).1, (Prod.mk.inj (Prod.mk.inj HK.out).2).2⟩
            subst r1 r2 r3
            clear HK hRR
            go_enter Tryz.func145, Tryz.ntmps145
            go_wp2_with (first | (go_at_call 175; refine (hI _ (by exact ((Below.refl _ _).alloc (Nat.le_refl _) _).alloc (by simp) _)).mono ?_; rintro e w' ⟨rfl, rfl⟩) | (go_at_call 177; with_reducible refine (hNu _).mono ?_; rintro e w1 ⟨rfl, hB1⟩; obtain ⟨hc, hf⟩ := bcell hB1; have hz : w.heap.size + 1 < w1.heap.size := (by have hs := hB1.size; simp at hs; omega); have hy : w.heap.size < w1.heap.size := (by omega)))
            refine bodyPost_ret (v := .tuple #[.agg #[.int .i64 (ra), .int .i64 (rb)], .bool rc]) (by simp [results, Tryz.results145, go_sem, hc, hz]) rfl ⟨rfl, ?_⟩
            have p1 : Below w.heap.size w w1 := (((Below.refl _ _).alloc (Nat.le_refl _) _).alloc (by simp) _).trans (hB1.mono (by first | (simp; done) | (simp; omega)))
            first | exact (p1.setCell (by simp) _).setCell (by simp) _ | exact ((below_alloc p1 _).setCell (by simp) _).setCell (by simp) _ | exact below_alloc ((p1.setCell (by simp) _).setCell (by simp) _) _
          | false =>
            as_aux_lemma =>
            have HK := Lib.hid (show (ra, rb, rc) = ((0 : Int), (0 : Int), false) from by simp only [h0, if_true, if_false, Bool.and_true, Bool.and_false, Bool.true_and, Bool.false_and, Bool.false_eq_true, Prod.mk.injEq] at hRR ⊢; obtain ⟨⟨a, b⟩, c⟩ := hRR; exact ⟨a, b, c⟩)
            obtain ⟨r1, r2, r3⟩ : ra = _ ∧ rb = _ ∧ rc = _ := ⟨(Prod.mk.inj HK.out).1, (Prod.mk.inj (Prod.mk.inj HK.out).2).1, (Prod.mk.inj (Prod.mk.inj HK.out).2).2⟩
            subst r1 r2 r3
            clear HK hRR
            go_enter Tryz.func145, Tryz.ntmps145
            go_wp2_with (first | (go_at_call 175; refine (hI _ (by exact ((Below.refl _ _).alloc (Nat.le_refl _) _).alloc (by simp) _)).mono ?_; rintro e w' ⟨rfl, rfl⟩))
            refine bodyPost_ret (v := .tuple #[.agg #[.int .i64 (0), .int .i64 (0)], .bool false]) (by simp [results, Tryz.results145, go_sem]) rfl ⟨rfl, ?_⟩
            first | exact ((Below.refl _ _).alloc (Nat.le_refl _) _).alloc (by simp) _ | exact ((((Below.refl _ _).alloc (Nat.le_refl _) _).alloc (by simp) _).setCell (by simp) _).setCell (by simp) _
    | true =>
      cases qz with
      | true =>
        have HK := Lib.hid (show (ra, rb, rc) = ((2 : Int), (0 : Int), true) from by simp only [h0, if_true, if_false, Bool.and_true, Bool.and_false, Bool.true_and, Bool.false_and, Bool.false_eq_true, Prod.mk.injEq] at hRR ⊢; obtain ⟨⟨a, b⟩, c⟩ := hRR; exact ⟨a, b, c⟩)
        obtain ⟨r1, r2, r3⟩ : ra = _ ∧ rb = _ ∧ rc = _ := ⟨(Prod.mk.inj HK.out).1, (Prod.mk.inj (Prod.mk.inj HK.out).2).1, (Prod.mk.inj (Prod.mk.inj HK.out).2).2⟩
        subst r1 r2 r3
        clear HK hRR
        go_enter Tryz.func145, Tryz.ntmps145
        go_wp2_with (first | (go_at_call 175; refine (hI _ (by exact ((Below.refl _ _).alloc (Nat.le_refl _) _).alloc (by simp) _)).mono ?_; rintro e w' ⟨rfl, rfl⟩))
        refine bodyPost_ret (v := .tuple #[.agg #[.int .i64 (2), .int .i64 (0)], .bool true]) (by simp [results, Tryz.results145, go_sem]) rfl ⟨rfl, ?_⟩
        first | exact ((Below.refl _ _).alloc (Nat.le_refl _) _).alloc (by simp) _ | exact ((((Below.refl _ _).alloc (Nat.le_refl _) _).alloc (by simp) _).setCell (by simp) _).setCell (by simp) _
      | false =>
        cases co with
        | true =>
          have HK := Lib.hid (show (ra, rb, rc) = ((4 : Int), (cN : Int), cB) from by simp only [h0, if_true, if_false, Bool.and_true, Bool.and_false, Bool.true_and, Bool.false_and, Bool.false_eq_true, Prod.mk.injEq] at hRR ⊢; obtain ⟨⟨a, b⟩, c⟩ := hRR; exact ⟨a, b, c⟩)
          obtain ⟨r1, r2, r3⟩ : ra = _ ∧ rb = _ ∧ rc = _ := ⟨(Prod.mk.inj HK.out).1, (Prod.mk.inj (Prod.mk.inj HK.out).2).1, (Prod.mk.inj (Prod.mk.inj HK.out).2).2⟩
          subst r1 r2 r3
          clear HK hRR
          go_enter Tryz.func145, Tryz.ntmps145
          go_wp2_with (first | (go_at_call 175; refine (hI _ (by exact ((Below.refl _ _).alloc (Nat.le_refl _) _).alloc (by simp) _)).mono ?_; rintro e w' ⟨rfl, rfl⟩) | (go_at_call 176; refine (hCol _).mono ?_; rintro e w1 ⟨rfl, hB1⟩; obtain ⟨hc, hf⟩ := bcell hB1; have hz : w.heap.size + 1 < w1.heap.size := (by have hs := hB1.size; simp at hs; omega); have hy : w.heap.size < w1.heap.size := (by omega)))
          refine bodyPost_ret (v := .tuple #[.agg #[.int .i64 (4), .int .i64 (rb)], .bool rc]) (by simp [results, Tryz.results145, go_sem, hc, hz]) rfl ⟨rfl, ?_⟩
          have p1 : Below w.heap.size w w1 := (((Below.refl _ _).alloc (Nat.le_refl _) _).alloc (by simp) _).trans (hB1.mono (by first | (simp; done) | (simp; omega)))
          first | exact (p1.setCell (by simp) _).setCell (by simp) _ | exact ((below_alloc p1 _).setCell (by simp) _).setCell (by simp) _ | exact below_alloc ((p1.setCell (by simp) _).setCell (by simp) _) _
        | false =>
          cases xB with
          | true =>
            have HK := Lib.hid (show (ra, rb, rc) = ((xa : Int), (xb : Int), true) from by simp only [h0, if_true, if_false, Bool.and_true, Bool.and_false, Bool.true_and, Bool.false_and, Bool.false_eq_true, Prod.mk.injEq] at hRR ⊢; obtain ⟨⟨a, b⟩, c⟩ := hRR; exact ⟨a, b, c⟩)
            obtain ⟨r1, r2, r3⟩ : ra = _ ∧ rb = _ ∧ rc = _ := ⟨(Prod.mk.inj HK.out).1, (Prod.mk.inj (Prod.mk.inj HK.out).2).1, (Prod.mk.inj (Prod.mk.inj HK.out).2).2⟩
            subst r1 r2 r3
            clear HK hRR
            go_enter Tryz.func145, Tryz.ntmps145
            go_wp2_with (first | (go_at_call 175; refine (hI _ (by exact ((Below.refl _ _).alloc (Nat.le_refl _) _).alloc (by simp) _)).mono ?_; rintro e w' ⟨rfl, rfl⟩) | (go_at_call 177; with_reducible refine (hPx _).mono ?_; rintro e w1 ⟨rfl, hB1⟩; obtain ⟨hc, hf⟩ := bcell hB1; have hz : w.heap.size + 1 < w1.heap.size := (by have hs := hB1.size; simp at hs; omega); have hy : w.heap.size < w1.heap.size := (by omega)))
            refine bodyPost_ret (v := .tuple #[.agg #[.int .i64 (ra), .int .i64 (rb)], .bool true]) (by simp [results, Tryz.results145, go_sem, hc, hz]) rfl ⟨rfl, ?_⟩
            have p1 : Below w.heap.size w w1 := (((Below.refl _ _).alloc (Nat.le_refl _) _).alloc (by simp) _).trans (hB1.mono (by first | (simp; done) | (simp; omega)))
            first | exact (p1.setCell (by simp) _).setCell (by simp) _ | exact ((below_alloc p1 _).setCell (by simp) _).setCell (by simp) _ | exact below_alloc ((p1.setCell (by simp) _).setCell (by simp) _) _
          | false =>
            cases pa with
            | true =>
              have HK := Lib.hid (show (ra, rb, rc) = ((pA : Int), (pb : Int), pB) from by simp only [h0, if_true, if_false, Bool.and_true, Bool.and_false, Bool.true_and, Bool.false_and, Bool.false_eq_true, Prod.mk.injEq] at hRR ⊢; obtain ⟨⟨a, b⟩, c⟩ := hRR; exact ⟨a, b, c⟩)
              obtain ⟨r1, r2, r3⟩ : ra = _ ∧ rb = _ ∧ rc = _ := ⟨(Prod.mk.inj HK.out).1, (Prod.mk.inj (Prod.mk.inj HK.out).2).1, (Prod.mk.inj (Prod.mk.inj HK.out).2).2⟩
              subst r1 r2 r3
              clear HK hRR
              go_enter Tryz.func145, Tryz.ntmps145
              go_wp2_with (first | (go_at_call 175; refine (hI _ (by exact ((Below.refl _ _).alloc (Nat.le_refl _) _).alloc (by simp) _)).mono ?_; rintro e w' ⟨rfl, rfl⟩) | (go_at_call 177; first | (with_reducible refine (hPx _).mono ?_; rintro e w1 ⟨rfl, hB1⟩; obtain ⟨hc, hf⟩ := bcell hB1; have hz : w.heap.size + 1 < w1.heap.size := (by have hs := hB1.size; simp at hs; omega); have hy : w.heap.size < w1.heap.size := (by omega)) | (with_reducible refine (hPc _).mono ?_; rintro e w2 ⟨rfl, hB2⟩; obtain ⟨hc2, hf2⟩ := bcell hB2; have hz2 : w.heap.size + 1 < w2.heap.size := (by have hs2 := hB2.size; simp at hs2; omega); have hy2 : w.heap.size < w2.heap.size := (by omega))))
              have k0 : w2.cell? ⟨w.heap.size + 1, 0, none⟩ = some (.int .i64 0) := by rw [hc2 _ _ (by simp; omega)]; simp [hc, hz, hy, World.cell?_alloc_past, go_sem]
              have k1 : w2.cell? ⟨w.heap.size + 1, 1, none⟩ = some (.int .i64 0) := by rw [hc2 _ _ (by simp; omega)]; simp [hc, hz, hy, World.cell?_alloc_past, go_sem]
              refine bodyPost_ret (v := .tuple #[.agg #[.int .i64 (ra), .int .i64 (rb)], .bool rc]) (by simp [results, Tryz.results145, go_sem, k0, k1]) rfl ⟨rfl, ?_⟩
              have p1 : Below w.heap.size w w1 := (((Below.refl _ _).alloc (Nat.le_refl _) _).alloc (by simp) _).trans (hB1.mono (by first | (simp; done) | (simp; omega)))
              have p2 : Below w.heap.size w w2 := by first | exact (below_alloc p1 _).trans (hB2.mono (by first | (simp; done) | (simp; omega))) | exact p1.trans (hB2.mono (by first | (simp; done) | (simp; omega)))
              exact (p2.setCell (by simp) _).setCell (by simp) _
            | false =>
              cases nu with
              | true =>
                have HK := Lib.hid (show (ra, rb, rc) = ((ua : Int), (ub : Int), uB) from by simp only [h0, if_true, if_false, Bool.and_true, Bool.and_false, Bool.true_and, Bool.false_and, Bool.false_eq_true, Prod.mk.injEq] at hRR ⊢; obtain ⟨⟨a, b⟩, c⟩ := hRR; exact ⟨a, b, c⟩)
                obtain ⟨r1, r2, r3⟩ : ra = _ ∧ rb = _ ∧ rc = _ := ⟨(Prod.mk.inj HK.out).1, (Prod.mk.inj (Prod.mk.inj HK.out).2).1, (Prod.mk.inj (Prod.mk.inj HK.out).2).2⟩
                subst r1 r2 r3
                clear HK hRR
                go_enter Tryz.func145, Tryz.ntmps145
                go_wp2_with (first | (go_at_call 175; refine (hI _ (by exact ((Below.refl _ _).alloc (Nat.le_refl _) _).alloc (by simp) _)).mono ?_; rintro e w' ⟨rfl, rfl⟩) | (go_at_call 177; first | (with_reducible refine (hPx _).mono ?_; rintro e w1 ⟨rfl, hB1⟩; obtain ⟨hc, hf⟩ := bcell hB1; have hz : w.heap.size + 1 < w1.heap.size := (by have hs := hB1.size; simp at hs; omega); have hy : w.heap.size < w1.heap.size := (by omega)) | (with_reducible refine (hNu _).mono ?_; rintro e w2 ⟨rfl, hB2⟩; obtain ⟨hc2, hf2⟩ := bcell hB2; have hz2 : w.heap.size + 1 < w2.heap.size := (by have hs2 := hB2.size; simp at hs2; omega); have hy2 : w.heap.size < w2.heap.size := (by omega))))
                have k0 : w2.cell? ⟨w.heap.size + 1, 0, none⟩ = some (.int .i64 0) := by rw [hc2 _ _ (by simp; omega)]; simp [hc, hz, hy, World.cell?_alloc_past, go_sem]
                have k1 : w2.cell? ⟨w.heap.size + 1, 1, none⟩ = some (.int .i64 0) := by rw [hc2 _ _ (by simp; omega)]; simp [hc, hz, hy, World.cell?_alloc_past, go_sem]
                refine bodyPost_ret (v := .tuple #[.agg #[.int .i64 (ra), .int .i64 (rb)], .bool rc]) (by simp [results, Tryz.results145, go_sem, k0, k1]) rfl ⟨rfl, ?_⟩
                have p1 : Below w.heap.size w w1 := (((Below.refl _ _).alloc (Nat.le_refl _) _).alloc (by simp) _).trans (hB1.mono (by first | (simp; done) | (simp; omega)))
                have p2 : Below w.heap.size w w2 := by first | exact (below_alloc p1 _).trans (hB2.mono (by first | (simp; done) | (simp; omega))) | exact p1.trans (hB2.mono (by first | (simp; done) | (simp; omega)))
                exact (p2.setCell (by simp) _).setCell (by simp) _
              | false =>
                as_aux_lemma =>
                have HK := Lib.hid (show (ra, rb, rc) = ((0 : Int), (0 : Int), false) from by simp only [h0, if_true, if_false, Bool.and_true, Bool.and_false, Bool.true_and, Bool.false_and, Bool.false_eq_true, Prod.mk.injEq] at hRR ⊢; obtain ⟨⟨a, b⟩, c⟩ := hRR; exact ⟨a, b, c⟩)
                obtain ⟨r1, r2, r3⟩ : ra = _ ∧ rb = _ ∧ rc = _ := ⟨(Prod.mk.inj HK.out).1, (Prod.mk.inj (Prod.mk.inj HK.out).2).1, (Prod.mk.inj (Prod.mk.inj HK.out).2).2⟩
                subst r1 r2 r3
                clear HK hRR
                go_enter Tryz.func145, Tryz.ntmps145
                go_wp2_with (first | (go_at_call 175; refine (hI _ (by exact ((Below.refl _ _).alloc (Nat.le_refl _) _).alloc (by simp) _)).mono ?_; rintro e w' ⟨rfl, rfl⟩) | (go_at_call 177; with_reducible refine (hPx _).mono ?_; rintro e w1 ⟨rfl, hB1⟩; obtain ⟨hc, hf⟩ := bcell hB1; have hz : w.heap.size + 1 < w1.heap.size := (by have hs := hB1.size; simp at hs; omega); have hy : w.heap.size < w1.heap.size := (by omega)))
                refine bodyPost_ret (v := .tuple #[.agg #[.int .i64 (0), .int .i64 (0)], .bool false]) (by simp [results, Tryz.results145, go_sem, hc, hz]) rfl ⟨rfl, ?_⟩
                have p1 : Below w.heap.size w w1 := (((Below.refl _ _).alloc (Nat.le_refl _) _).alloc (by simp) _).trans (hB1.mono (by first | (simp; done) | (simp; omega)))
                first | exact (p1.setCell (by simp) _).setCell (by simp) _ | exact ((below_alloc p1 _).setCell (by simp) _).setCell (by simp) _ | exact below_alloc ((p1.setCell (by simp) _).setCell (by simp) _) _
  | true =>
    cases qa with
    | true =>
      have HK := Lib.hid (show (ra, rb, rc) = ((1 : Int), (0 : Int), true) from by simp only [h0, if_true, if_false, Bool.and_true, Bool.and_false, Bool.true_and, Bool.false_and, Bool.false_eq_true, Prod.mk.injEq] at hRR ⊢; obtain ⟨⟨a, b⟩, c⟩ := hRR; exact ⟨a, b, c⟩)
      obtain ⟨r1, r2, r3⟩ : ra = _ ∧ rb = _ ∧ rc = _ := ⟨(Prod.mk.inj HK.out).1, (Prod.mk.inj (Prod.mk.inj HK.out).2).1, (Prod.mk.inj (Prod.mk.inj HK.out).2).2⟩
      subst r1 r2 r3
      clear HK hRR
      go_enter Tryz.func145, Tryz.ntmps145
      go_wp2_with (first | (go_at_call 175; refine (hI _ (by exact ((Below.refl _ _).alloc (Nat.le_refl _) _).alloc (by simp) _)).mono ?_; rintro e w' ⟨rfl, rfl⟩))
      refine bodyPost_ret (v := .tuple #[.agg #[.int .i64 (1), .int .i64 (0)], .bool true]) (by simp [results, Tryz.results145, go_sem]) rfl ⟨rfl, ?_⟩
      first | exact ((Below.refl _ _).alloc (Nat.le_refl _) _).alloc (by simp) _ | exact ((((Below.refl _ _).alloc (Nat.le_refl _) _).alloc (by simp) _).setCell (by simp) _).setCell (by simp) _
    | false =>
      cases le with
      | false =>
        cases co with
        | true =>
          have HK := Lib.hid (show (ra, rb, rc) = ((4 : Int), (cN : Int), cB) from by simp only [h0, if_true, if_false, Bool.and_true, Bool.and_false, Bool.true_and, Bool.false_and, Bool.false_eq_true, Prod.mk.injEq] at hRR ⊢; obtain ⟨⟨a, b⟩, c⟩ := hRR; exact ⟨a, b, c⟩)
          obtain ⟨r1, r2, r3⟩ : ra = _ ∧ rb = _ ∧ rc = _ := ⟨(Prod.mk.inj HK.out).1, (Prod.mk.inj (Prod.mk.inj HK.out).2).1, (Prod.mk.inj (Prod.mk.inj HK.out).2).2⟩
          subst r1 r2 r3
          clear HK hRR
          go_enter Tryz.func145, Tryz.ntmps145
          go_wp2_with (first | (go_at_call 175; refine (hI _ (by exact ((Below.refl _ _).alloc (Nat.le_refl _) _).alloc (by simp) _)).mono ?_; rintro e w' ⟨rfl, rfl⟩) | (go_at_call 176; refine (hCol _).mono ?_; rintro e w1 ⟨rfl, hB1⟩; obtain ⟨hc, hf⟩ := bcell hB1; have hz : w.heap.size + 1 < w1.heap.size := (by have hs := hB1.size; simp at hs; omega); have hy : w.heap.size < w1.heap.size := (by omega)))
          refine bodyPost_ret (v := .tuple #[.agg #[.int .i64 (4), .int .i64 (rb)], .bool rc]) (by simp [results, Tryz.results145, go_sem, hc, hz]) rfl ⟨rfl, ?_⟩
          have p1 : Below w.heap.size w w1 := (((Below.refl _ _).alloc (Nat.le_refl _) _).alloc (by simp) _).trans (hB1.mono (by first | (simp; done) | (simp; omega)))
          first | exact (p1.setCell (by simp) _).setCell (by simp) _ | exact ((below_alloc p1 _).setCell (by simp) _).setCell (by simp) _ | exact below_alloc ((p1.setCell (by simp) _).setCell (by simp) _) _
        | false =>
          cases pa with
          | true =>
            have HK := Lib.hid (show (ra, rb, rc) = ((pA : Int), (pb : Int), pB) from by simp only [h0, if_true, if_false, Bool.and_true, Bool.and_false, Bool.true_and, Bool.false_and, Bool.false_eq_true, Prod.mk.injEq] at hRR ⊢; obtain ⟨⟨a, b⟩, c⟩ := hRR; exact ⟨a, b, c⟩)
            obtain ⟨r1, r2, r3⟩ : ra = _ ∧ rb = _ ∧ rc = _ := ⟨(Prod.mk.inj HK.out).1, (Prod.mk.inj (Prod.mk.inj HK.out).2).1, (Prod.mk.inj (Prod.mk.inj HK.out).2).2⟩
            subst r1 r2 r3
            clear HK hRR
            go_enter Tryz.func145, Tryz.ntmps145
            go_wp2_with (first | (go_at_call 175; refine (hI _ (by exact ((Below.refl _ _).alloc (Nat.le_refl _) _).alloc (by simp) _)).mono ?_; rintro e w' ⟨rfl, rfl⟩) | (go_at_call 177; with_reducible refine (hPc _).mono ?_; rintro e w1 ⟨rfl, hB1⟩; obtain ⟨hc, hf⟩ := bcell hB1; have hz : w.heap.size + 1 < w1.heap.size := (by have hs := hB1.size; simp at hs; omega); have hy : w.heap.size < w1.heap.size := (by omega)))
            refine bodyPost_ret (v := .tuple #[.agg #[.int .i64 (ra), .int .i64 (rb)], .bool rc]) (by simp [results, Tryz.results145, go_sem, hc, hz]) rfl ⟨rfl, ?_⟩
            have p1 : Below w.heap.size w w1 := (((Below.refl _ _).alloc (Nat.le_refl _) _).alloc (by simp) _).trans (hB1.mono (by first | (simp; done) | (simp; omega)))
            first | exact (p1.setCell (by simp) _).setCell (by simp) _ | exact ((below_alloc p1 _).setCell (by simp) _).setCell (by simp) _ | exact below_alloc ((p1.setCell (by simp) _).setCell (by simp) _) _
          | false =>
            cases nu with
            | true =>
              have HK := Lib.hid (show (ra, rb, rc) = ((ua : Int), (ub : Int), uB) from by simp only [h0, if_true, if_false, Bool.and_true, Bool.and_false, Bool.true_and, Bool.false_and, Bool.false_eq_true, Prod.mk.injEq] at hRR ⊢; obtain ⟨⟨a, b⟩, c⟩ := hRR; exact ⟨a, b, c⟩)
              obtain ⟨r1, r2, r3⟩ : ra = _ ∧ rb = _ ∧ rc = _ := ⟨(Prod.mk.inj HK.out).1, (Prod.mk.inj (Prod.mk.inj HK.out).2).1, (Prod.mk.inj (Prod.mk.inj HK.out).2).2⟩
              subst r1 r2 r3
              clear HK hRR
              go_enter Tryz.func145, Tryz.ntmps145
              go_wp2_with (first | (go_at_call 175; refine (hI _ (by exact ((Below.refl _ _).alloc (Nat.le_refl _) _).alloc (by simp) _)).mono ?_; rintro e w' ⟨rfl, rfl⟩) | (go_at_call 177; with_reducible refine (hNu _).mono ?_; rintro e w1 ⟨rfl, hB1⟩; obtain ⟨hc, hf⟩ := bcell hB1; have hz : w.heap.size + 1 < w1.heap.size := (by have hs := hB1.size; simp at hs; omega); have hy : w.heap.size < w1.heap.size := (by omega)))
              refine bodyPost_ret (v := .tuple #[.agg #[.int .i64 (ra), .int .i64 (rb)], .bool rc]) (by simp [results, Tryz.results145, go_sem, hc, hz]) rfl ⟨rfl, ?_⟩
              have p1 : Below w.heap.size w w1 := (((Below.refl _ _).alloc (Nat.le_refl _) _).alloc (by simp) _).trans (hB1.mono (by first | (simp; done) | (simp; omega)))
              first | exact (p1.setCell (by simp) _).setCell (by simp) _ | exact ((below_alloc p1 _).setCell (by simp) _).setCell (by simp) _ | exact below_alloc ((p1.setCell (by simp) _).setCell (by simp) _) _
            | false =>
              as_aux_lemma =>
              have HK := Lib.hid (show (ra, rb, rc) = ((0 : Int), (0 : Int), false) from by simp only [h0, if_true, if_false, Bool.and_true, Bool.and_false, Bool.true_and, Bool.false_and, Bool.false_eq_true, Prod.mk.injEq] at hRR ⊢; obtain ⟨⟨a, b⟩, c⟩ := hRR; exact ⟨a, b, c⟩)
              obtain ⟨r1, r2, r3⟩ : ra = _ ∧ rb = _ ∧ rc = _ := ⟨(Prod.mk.inj HK.out).1, (Prod.mk.inj (Prod.mk.inj HK.out).2).1, (Prod.mk.inj (Prod.mk.inj HK.out).2).2⟩
              subst r1 r2 r3
              clear HK hRR
              go_enter Tryz.func145, Tryz.ntmps145
              go_wp2_with (first | (go_at_call 175; refine (hI _ (by exact ((Below.refl _ _).alloc (Nat.le_refl _) _).alloc (by simp) _)).mono ?_; rintro e w' ⟨rfl, rfl⟩))
              refine bodyPost_ret (v := .tuple #[.agg #[.int .i64 (0), .int .i64 (0)], .bool false]) (by simp [results, Tryz.results145, go_sem]) rfl ⟨rfl, ?_⟩
              first | exact ((Below.refl _ _).alloc (Nat.le_refl _) _).alloc (by simp) _ | exact ((((Below.refl _ _).alloc (Nat.le_refl _) _).alloc (by simp) _).setCell (by simp) _).setCell (by simp) _
      | true =>
        cases qz with
        | true =>
          have HK := Lib.hid (show (ra, rb, rc) = ((2 : Int), (0 : Int), true) from by simp only [h0, if_true, if_false, Bool.and_true, Bool.and_false, Bool.true_and, Bool.false_and, Bool.false_eq_true, Prod.mk.injEq] at hRR ⊢; obtain ⟨⟨a, b⟩, c⟩ := hRR; exact ⟨a, b, c⟩)
          obtain ⟨r1, r2, r3⟩ : ra = _ ∧ rb = _ ∧ rc = _ := ⟨(Prod.mk.inj HK.out).1, (Prod.mk.inj (Prod.mk.inj HK.out).2).1, (Prod.mk.inj (Prod.mk.inj HK.out).2).2⟩
          subst r1 r2 r3
          clear HK hRR
          go_enter Tryz.func145, Tryz.ntmps145
          go_wp2_with (first | (go_at_call 175; refine (hI _ (by exact ((Below.refl _ _).alloc (Nat.le_refl _) _).alloc (by simp) _)).mono ?_; rintro e w' ⟨rfl, rfl⟩))
          refine bodyPost_ret (v := .tuple #[.agg #[.int .i64 (2), .int .i64 (0)], .bool true]) (by simp [results, Tryz.results145, go_sem]) rfl ⟨rfl, ?_⟩
          first | exact ((Below.refl _ _).alloc (Nat.le_refl _) _).alloc (by simp) _ | exact ((((Below.refl _ _).alloc (Nat.le_refl _) _).alloc (by simp) _).setCell (by simp) _).setCell (by simp) _
        | false =>
          cases co with
          | true =>
            have HK := Lib.hid (show (ra, rb, rc) = ((4 : Int), (cN : Int), cB) from by simp only [h0, if_true, if_false, Bool.and_true, Bool.and_false, Bool.true_and, Bool.false_and, Bool.false_eq_true, Prod.mk.injEq] at hRR ⊢; obtain ⟨⟨a, b⟩, c⟩ := hRR; exact ⟨a, b, c⟩)
            obtain ⟨r1, r2, r3⟩ : ra = _ ∧ rb = _ ∧ rc = _ := ⟨(Prod.mk.inj HK.out).1, (Prod.mk.inj (Prod.mk.inj HK.out).2).1, (Prod.mk.inj (Prod.mk.inj HK.out).2).2⟩
            subst r1 r2 r3
            clear HK hRR
            go_enter Tryz.func145, Tryz.ntmps145
            go_wp2_with (first | (go_at_call 175; refine (hI _ (by exact ((Below.refl _ _).alloc (Nat.le_refl _) _).alloc (by simp) _)).mono ?_; rintro e w' ⟨rfl, rfl⟩) | (go_at_call 176; refine (hCol _).mono ?_; rintro e w1 ⟨rfl, hB1⟩; obtain ⟨hc, hf⟩ := bcell hB1; have hz : w.heap.size + 1 < w1.heap.size := (by have hs := hB1.size; simp at hs; omega); have hy : w.heap.size < w1.heap.size := (by omega)))
            refine bodyPost_ret (v := .tuple #[.agg #[.int .i64 (4), .int .i64 (rb)], .bool rc]) (by simp [results, Tryz.results145, go_sem, hc, hz]) rfl ⟨rfl, ?_⟩
            have p1 : Below w.heap.size w w1 := (((Below.refl _ _).alloc (Nat.le_refl _) _).alloc (by simp) _).trans (hB1.mono (by first | (simp; done) | (simp; omega)))
            first | exact (p1.setCell (by simp) _).setCell (by simp) _ | exact ((below_alloc p1 _).setCell (by simp) _).setCell (by simp) _ | exact below_alloc ((p1.setCell (by simp) _).setCell (by simp) _) _
          | false =>
            cases xB with
            | true =>
              have HK := Lib.hid (show (ra, rb, rc) = ((xa : Int), (xb : Int), true) from by simp only [h0, if_true, if_false, Bool.and_true, Bool.and_false, Bool.true_and, Bool.false_and, Bool.false_eq_true, Prod.mk.injEq] at hRR ⊢; obtain ⟨⟨a, b⟩, c⟩ := hRR; exact ⟨a, b, c⟩)
              obtain ⟨r1, r2, r3⟩ : ra = _ ∧ rb = _ ∧ rc = _ := ⟨(Prod.mk.inj HK.out).1, (Prod.mk.inj (Prod.mk.inj HK.out).2).1, (Prod.mk.inj (Prod.mk.inj HK.out).2).2⟩
              subst r1 r2 r3
              clear HK hRR
              go_enter Tryz.func145, Tryz.ntmps145
              go_wp2_with (first | (go_at_call 175; refine (hI _ (by exact ((Below.refl _ _).alloc (Nat.le_refl _) _).alloc (by simp) _)).mono ?_; rintro e w' ⟨rfl, rfl⟩) | (go_at_call 177; with_reducible refine (hPx _).mono ?_; rintro e w1 ⟨rfl, hB1⟩; obtain ⟨hc, hf⟩ := bcell hB1; have hz : w.heap.size + 1 < w1.heap.size := (by have hs := hB1.size; simp at hs; omega); have hy : w.heap.size < w1.heap.size := (by omega)))
              refine bodyPost_ret (v := .tuple #[.agg #[.int .i64 (ra), .int .i64 (rb)], .bool true]) (by simp [results, Tryz.results145, go_sem, hc, hz]) rfl ⟨rfl, ?_⟩
              have p1 : Below w.heap.size w w1 := (((Below.refl _ _).alloc (Nat.le_refl _) _).alloc (by simp) _).trans (hB1.mono (by first | (simp; done) | (simp; omega)))
              first | exact (p1.setCell (by simp) _).setCell (by simp) _ | exact ((below_alloc p1 _).setCell (by simp) _).setCell (by simp) _ | exact below_alloc ((p1.setCell (by simp) _).setCell (by simp) _) _
            | false =>
              cases pa with
              | true =>
                have HK := Lib.hid (show (ra, rb, rc) = ((pA : Int), (pb : Int), pB) from by simp only [h0, if_true, if_false, Bool.and_true, Bool.and_false, Bool.true_and, Bool.false_and, Bool.false_eq_true, Prod.mk.injEq] at hRR ⊢; obtain ⟨⟨a, b⟩, c⟩ := hRR; exact ⟨a, b, c⟩)
                obtain ⟨r1, r2, r3⟩ : ra = _ ∧ rb = _ ∧ rc = _ := ⟨(Prod.mk.inj HK.out).1, (Prod.mk.inj (Prod.mk.inj HK.out).2).1, (Prod.mk.inj (Prod.mk.inj HK.out).2).2⟩
                subst r1 r2 r3
                clear HK hRR
                go_enter Tryz.func145, Tryz.ntmps145
                go_wp2_with (first | (go_at_call 175; refine (hI _ (by exact ((Below.refl _ _).alloc (Nat.le_refl _) _).alloc (by simp) _)).mono ?_; rintro e w' ⟨rfl, rfl⟩) | (go_at_call 177; first | (with_reducible refine (hPx _).mono ?_; rintro e w1 ⟨rfl, hB1⟩; obtain ⟨hc, hf⟩ := bcell hB1; have hz : w.heap.size + 1 < w1.heap.size := (by have hs := hB1.size; simp at hs; omega); have hy : w.heap.size < w1.heap.size := (by omega)) | (with_reducible refine (hPc _).mono ?_; rintro e w2 ⟨rfl, hB2⟩; obtain ⟨hc2, hf2⟩ := bcell hB2; have hz2 : w.heap.size + 1 < w2.heap.size := (by have hs2 := hB2.size; simp at hs2; omega); have hy2 : w.heap.size < w2.heap.size := (by omega))))
                have k0 : w2.cell? ⟨w.heap.size + 1, 0, none⟩ = some (.int .i64 0) := by rw [hc2 _ _ (by simp; omega)]; simp [hc, hz, hy, World.cell?_alloc_past, go_sem]
                have k1 : w2.cell? ⟨w.heap.size + 1, 1, none⟩ = some (.int .i64 0) := by rw [hc2 _ _ (by simp; omega)]; simp [hc, hz, hy, World.cell?_alloc_past, go_sem]
                refine bodyPost_ret (v := .tuple #[.agg #[.int .i64 (ra), .int .i64 (rb)], .bool rc]) (by simp [results, Tryz.results145, go_sem, k0, k1]) rfl ⟨rfl, ?_⟩
                have p1 : Below w.heap.size w w1 := (((Below.refl _ _).alloc (Nat.le_refl _) _).alloc (by simp) _).trans (hB1.mono (by first | (simp; done) | (simp; omega)))
                have p2 : Below w.heap.size w w2 := by first | exact (below_alloc p1 _).trans (hB2.mono (by first | (simp; done) | (simp; omega))) | exact p1.trans (hB2.mono (by first | (simp; done) | (simp; omega)))
                exact (p2.setCell (by simp) _).setCell (by simp) _
              | false =>
                cases nu with
                | true =>
                  have HK := Lib.hid (show (ra, rb, rc) = ((ua : Int), (ub : Int), uB) from by simp only [h0, if_true, if_false, Bool.and_true, Bool.and_false, Bool.true_and, Bool.false_and, Bool.false_eq_true, Prod.mk.injEq] at hRR ⊢; obtain ⟨⟨a, b⟩, c⟩ := hRR; exact ⟨a, b, c⟩)
                  obtain ⟨r1, r2, r3⟩ : ra = _ ∧ rb = _ ∧ rc = _ := ⟨(Prod.mk.inj HK.out).1, (Prod.mk.inj (Prod.mk.inj HK.out).2).1, (Prod.mk.inj (Prod.mk.inj HK.out).2).2⟩
                  subst r1 r2 r3
                  clear HK hRR
                  go_enter Tryz.func145, Tryz.ntmps145
                  go_wp2_with (first | (go_at_call 175; refine (hI _ (by exact ((Below.refl _ _).alloc (Nat.le_refl _) _).alloc (by simp) _)).mono ?_; rintro e w' ⟨rfl, rfl⟩) | (go_at_call 177; first | (with_reducible refine (hPx _).mono ?_; rintro e w1 ⟨rfl, hB1⟩; obtain ⟨hc, hf⟩ := bcell hB1; have hz : w.heap.size + 1 < w1.heap.size := (by have hs := hB1.size; simp at hs; omega); have hy : w.heap.size < w1.heap.size := (by omega)) | (with_reducible refine (hNu _).mono ?_; rintro e w2 ⟨rfl, hB2⟩; obtain ⟨hc2, hf2⟩ := bcell hB2; have hz2 : w.heap.size + 1 < w2.heap.size := (by have hs2 := hB2.size; simp at hs2; omega); have hy2 : w.heap.size < w2.heap.size := (by omega))))
                  have k0 : w2.cell? ⟨w.heap.size + 1, 0, none⟩ = some (.int .i64 0) := by rw [hc2 _ _ (by simp; omega)]; simp [hc, hz, hy, World.cell?_alloc_past, go_sem]
                  have k1 : w2.cell? ⟨w.heap.size + 1, 1, none⟩ = some (.int .i64 0) := by rw [hc2 _ _ (by simp; omega)]; simp [hc, hz, hy, World.cell?_alloc_past, go_sem]
                  refine bodyPost_ret (v := .tuple #[.agg #[.int .i64 (ra), .int .i64 (rb)], .bool rc]) (by simp [results, Tryz.results145, go_sem, k0, k1]) rfl ⟨rfl, ?_⟩
                  have p1 : Below w.heap.size w w1 := (((Below.refl _ _).alloc (Nat.le_refl _) _).alloc (by simp) _).trans (hB1.mono (by first | (simp; done) | (simp; omega)))
                  have p2 : Below w.heap.size w w2 := by first | exact (below_alloc p1 _).trans (hB2.mono (by first | (simp; done) | (simp; omega))) | exact p1.trans (hB2.mono (by first | (simp; done) | (simp; omega)))
                  exact (p2.setCell (by simp) _).setCell (by simp) _
                | false =>
                  as_aux_lemma =>
                  have HK := Lib.hid (show (ra, rb, rc) = ((0 : Int), (0 : Int), false) from by simp only [h0, if_true, if_false, Bool.and_true, Bool.and_false, Bool.true_and, Bool.false_and, Bool.false_eq_true, Prod.mk.injEq] at hRR ⊢; obtain ⟨⟨a, b⟩, c⟩ := hRR; exact ⟨a, b, c⟩)
                  obtain ⟨r1, r2, r3⟩ : ra = _ ∧ rb = _ ∧ rc = _ := ⟨(Prod.mk.inj HK.out).1, (Prod.mk.inj (Prod.mk.inj HK.out).2).1, (Prod.mk.inj (Prod.mk.inj HK.out).2).2⟩
                  subst r1 r2 r3
                  clear HK hRR
                  go_enter Tryz.func145, Tryz.ntmps145
                  go_wp2_with (first | (go_at_call 175; refine (hI _ (by exact ((Below.refl _ _).alloc (Nat.le_refl _) _).alloc (by simp) _)).mono ?_; rintro e w' ⟨rfl, rfl⟩) | (go_at_call 177; with_reducible refine (hPx _).mono ?_; rintro e w1 ⟨rfl, hB1⟩; obtain ⟨hc, hf⟩ := bcell hB1; have hz : w.heap.size + 1 < w1.heap.size := (by have hs := hB1.size; simp at hs; omega); have hy : w.heap.size < w1.heap.size := (by omega)))
                  refine bodyPost_ret (v := .tuple #[.agg #[.int .i64 (0), .int .i64 (0)], .bool false]) (by simp [results, Tryz.results145, go_sem, hc, hz]) rfl ⟨rfl, ?_⟩
                  have p1 : Below w.heap.size w w1 := (((Below.refl _ _).alloc (Nat.le_refl _) _).alloc (by simp) _).trans (hB1.mono (by first | (simp; done) | (simp; omega)))
                  first | exact (p1.setCell (by simp) _).setCell (by simp) _ | exact ((below_alloc p1 _).setCell (by simp) _).setCell (by simp) _ | exact below_alloc ((p1.setCell (by simp) _).setCell (by simp) _) _
end Go.Proofs.Val
set_option linter.unusedVariables false
set_option linter.unusedSimpArgs false
namespace Go.Proofs.Val
open Go.RowKit Go.Proofs Go.Proofs.YtolfpgccebdlpaaGreatDoorW.PrintWords
def anyP (p : Nat) (l : List UInt8) : (Int × Int) × Bool := anyR (rec0 p).auto (rec0 p).length (rec0 p).part (rec0 p).color (rec0 p).number (wordsP p) l
def readL (p : Nat) (u : List UInt8) : (Int × Int) × Bool := if ((anyP p u).2 && mayV p (anyP p u).1.1 (anyP p u).1.2) = true then ((anyP p u).1, true) else ((0, 0), false)
def readV (p : Int) (s : ByteArray) : (Int × Int) × Bool := readL (cl p) (Scn.lowV (Scn.trimV s)).data.toList
theorem wordsP_le (p : Nat) : (wordsP p).length ≤ 4 := by
  unfold wordsP
  split
  · simp
  split
  · simp
  split
  · simp
  split <;> simp
theorem trimV_size (s : ByteArray) : (Scn.trimV s).size ≤ s.size := by
  show (Lib.trimS s.data.toList [32, 9, 10, 13]).length ≤ _
  rw [Lib.size_eq]
  unfold Lib.trimS Lib.trimLeftS Lib.trimRightS
  have h1 := (List.dropWhile_sublist (l := (s.data.toList.reverse.dropWhile (([32, 9, 10, 13] : List UInt8).contains ·)).reverse) (([32, 9, 10, 13] : List UInt8).contains ·)).length_le
  have h2 := (List.dropWhile_sublist (l := s.data.toList.reverse) (([32, 9, 10, 13] : List UInt8).contains ·)).length_le
  rw [List.length_reverse] at h1 h2
  omega
theorem lowV_size (s : ByteArray) : (Scn.lowV s).size = s.size := by
  show (s.data.toList.map Scn.lowB).length = _
  rw [List.length_map, Lib.size_eq]
set_option maxHeartbeats 8000000 in
set_option maxRecDepth 100000 in
theorem readC (p : Int) (s : ByteArray) (w : World) (hs : s.size < 4294967281) :
    Calls Tryz.prog 108 #[.int .i64 p, .string s] w fun e w' => e = .returned (.tuple #[.agg #[.int .i64 (readV p s).1.1, .int .i64 (readV p s).1.2], .bool (readV p s).2]) ∧ Below w.heap.size w w' := by
  have hO := fun w => ofP p w
  have hR := Lib.hid (show readV p s = if ((anyP (cl p) (Scn.lowV (Scn.trimV s)).data.toList).2 && mayV (cl p) (anyP (cl p) (Scn.lowV (Scn.trimV s)).data.toList).1.1 (anyP (cl p) (Scn.lowV (Scn.trimV s)).data.toList).1.2) = true then ((anyP (cl p) (Scn.lowV (Scn.trimV s)).data.toList).1, true) else ((0, 0), false) from rfl)
  have hT := fun w => Scn.trim_any s w hs
  have hts := trimV_size s
  have hL := fun w => Scn.lower_any (Scn.trimV s) w (by omega)
  have hls := lowV_size (Scn.trimV s)
  obtain ⟨tr, htr⟩ : ∃ tr, Scn.trimV s = tr := ⟨_, rfl⟩
  rw [htr] at hR hts hls
  simp only [htr] at hT hL
  obtain ⟨u, hu⟩ : ∃ u, Scn.lowV tr = u := ⟨_, rfl⟩
  rw [hu] at hR hls
  simp only [hu] at hL
  have hA := fun nm be wa kk nn w hw => anyC nm (rec0 (cl p)).auto (rec0 (cl p)).length (rec0 (cl p)).part be (rec0 (cl p)).color (rec0 (cl p)).number wa (wordsP (cl p)) kk nn u.data.toList w hw (wordsP_le _) (by rw [← Lib.size_eq]; omega)
  have hM := fun k n w => mayP p k n w
  have hwl := wordsP_len (cl p) (cl_le p)
  have hrec : ∀ wa, recV (recA (cl p) wa) = .agg #[.string (rec0 (cl p)).name, .bool (rec0 (cl p)).auto, .bool (rec0 (cl p)).length, .bool (rec0 (cl p)).part, .bool (rec0 (cl p)).below, .bool (rec0 (cl p)).color, .bool (rec0 (cl p)).number, .slice wa (wordsP (cl p)).length (wordsP (cl p)).length, .int .i64 (rec0 (cl p)).k, .int .i64 (rec0 (cl p)).n] := by
    intro wa
    rw [← hwl]
    rfl
  simp only [hrec] at hO
  change Hid (_ = if ((anyP (cl p) u.data.toList).2 && _) = true then _ else _) at hR
  have hAe : ∀ l, anyR (rec0 (cl p)).auto (rec0 (cl p)).length (rec0 (cl p)).part (rec0 (cl p)).color (rec0 (cl p)).number (wordsP (cl p)) l = anyP (cl p) l := fun l => rfl
  simp only [hAe] at hA
  have hue : (⟨u.data.toList.toArray⟩ : ByteArray) = u := by cases u; simp
  simp only [hue] at hA
  obtain ⟨⟨⟨a, b⟩, c⟩, hr⟩ : ∃ r, anyP (cl p) u.data.toList = r := ⟨_, rfl⟩
  rw [hr] at hR
  simp only [hr] at hA
  obtain ⟨m, hm⟩ : ∃ m, mayV (cl p) a b = m := ⟨_, rfl⟩
  have hM2 := fun w => hM a b w
  simp only [hm] at hM2 hR
  generalize (rec0 (cl p)).name = nm at hO
  generalize (rec0 (cl p)).auto = au at hO hA
  generalize (rec0 (cl p)).length = le at hO hA
  generalize (rec0 (cl p)).part = pa at hO hA
  generalize (rec0 (cl p)).below = be at hO
  generalize (rec0 (cl p)).color = co at hO hA
  generalize (rec0 (cl p)).number = nu at hO hA
  generalize (rec0 (cl p)).k = kk at hO
  generalize (rec0 (cl p)).n = nn at hO
  generalize decide (1 ≤ p ∧ p ≤ 26) = inB at hO
  generalize wordsP (cl p) = ws at hO hA hwl
  have HA := Lib.hid hA
  have HMM := Lib.hid hM2
  clear hA hM hM2 hwl hrec hAe hue hr hm hs hu htr hts hls
  go_enter Tryz.func108, Tryz.ntmps108
  go_upto_region 2 with (first | (go_at_call 116; refine (hO _).mono ?_; rintro e w1 ⟨wa, rfl, hS, hB⟩; obtain ⟨hc, hf⟩ := bcell hB; have hz : w.heap.size < w1.heap.size := (by have hs := hB.size; rw [alloc_size] at hs; omega)))
  obtain ⟨W1, hW1⟩ : ∃ W1, w1.alloc (Obj.cells #[.string nm, .bool au, .bool le, .bool pa, .bool be, .bool co, .bool nu, .slice wa ws.length ws.length, .int .i64 kk, .int .i64 nn] 163) = W1 := ⟨_, rfl⟩
  have hg : W1.heap[w1.heap.size]? = some (.cells #[.string nm, .bool au, .bool le, .bool pa, .bool be, .bool co, .bool nu, .slice wa ws.length ws.length, .int .i64 kk, .int .i64 nn] 163 (0, 0)) := by rw [← hW1]; exact heap_alloc_new _ _
  have HS1 := Lib.hid (show WordsIn W1 wa ws by rw [← hW1]; exact hS.below (below_alloc (Below.refl _ _) _))
  have p1 : Below w.heap.size w w1 := ((Below.refl _ _).alloc (Nat.le_refl _) _).trans (hB.mono (by rw [alloc_size]; omega))
  have P1 := Lib.hid (show Below w.heap.size w W1 by rw [← hW1]; exact below_alloc p1 _)
  have hcell4 : W1.cell? ⟨w.heap.size, 0, none⟩ = some (.int .i64 0) ∧ W1.cell? ⟨w.heap.size, 1, none⟩ = some (.int .i64 0) := by
    have h0 : w1.heap[w.heap.size]? = some (.cells #[.int .i64 0, .int .i64 0] 109 (0, 0)) := (hB.block w.heap.size (by rw [alloc_size]; omega)).trans (heap_alloc_new _ _)
    have h1 : W1.heap[w.heap.size]? = some (.cells #[.int .i64 0, .int .i64 0] 109 (0, 0)) := by rw [← hW1]; exact (heap_alloc_old _ _ hz).trans h0
    exact ⟨(cell_of_row _ _ _ _ _ _ h1).trans rfl, (cell_of_row _ _ _ _ _ _ h1).trans rfl⟩
  rw [hW1]
  have hfz : W1.frozen? ⟨w.heap.size, 0, none⟩ = false ∧ W1.frozen? ⟨w.heap.size, 1, none⟩ = false := by
    have h0 : ∀ o, w1.frozen? ⟨w.heap.size, o, none⟩ = false := fun o => (hf w.heap.size o (by rw [alloc_size]; omega)).trans (World.frozen?_alloc_at _ _ _ _ rfl)
    have h1 : ∀ o, W1.frozen? ⟨w.heap.size, o, none⟩ = false := fun o => by rw [← hW1]; exact (World.frozen?_alloc_past _ _ _ hz).trans (h0 o)
    exact ⟨h1 0, h1 1⟩
  obtain ⟨g, hgg⟩ : ∃ g, w1.heap.size = g := ⟨_, rfl⟩
  have hg4 : w.heap.size < W1.heap.size := by rw [← hW1, alloc_size]; omega
  rw [hgg] at hg ⊢
  have hgl := lt_get hg
  have HK := Lib.hid (show ∀ W, Below W1.heap.size W1 W → (W.cell? ⟨g, 0, none⟩ = some (.string nm) ∧ W.cell? ⟨g, 1, none⟩ = some (.bool au) ∧ W.cell? ⟨g, 2, none⟩ = some (.bool le) ∧ W.cell? ⟨g, 3, none⟩ = some (.bool pa) ∧ W.cell? ⟨g, 4, none⟩ = some (.bool be) ∧ W.cell? ⟨g, 5, none⟩ = some (.bool co) ∧ W.cell? ⟨g, 6, none⟩ = some (.bool nu) ∧ W.cell? ⟨g, 7, none⟩ = some (.slice wa ws.length ws.length) ∧ W.cell? ⟨g, 8, none⟩ = some (.int .i64 kk) ∧ W.cell? ⟨g, 9, none⟩ = some (.int .i64 nn)) from fun W hW => by
    have h := (hW.block g hgl).trans hg
    exact ⟨(cell_of_row _ _ _ _ _ _ h).trans rfl, (cell_of_row _ _ _ _ _ _ h).trans rfl, (cell_of_row _ _ _ _ _ _ h).trans rfl, (cell_of_row _ _ _ _ _ _ h).trans rfl, (cell_of_row _ _ _ _ _ _ h).trans rfl, (cell_of_row _ _ _ _ _ _ h).trans rfl, (cell_of_row _ _ _ _ _ _ h).trans rfl, (cell_of_row _ _ _ _ _ _ h).trans rfl, (cell_of_row _ _ _ _ _ _ h).trans rfl, (cell_of_row _ _ _ _ _ _ h).trans rfl⟩)
  obtain ⟨c0, c1, c2, c3, c4, c5, c6, c7, c8, c9⟩ := HK.out W1 (Below.refl _ _)
  clear hg hW1 hS p1 hB hgg hO
  have HK2 := Lib.hid (show ∀ W, Below W1.heap.size W1 W → (Below W1.heap.size W1 W ∧ W.cell? ⟨g, 0, none⟩ = some (.string nm) ∧ W.cell? ⟨g, 1, none⟩ = some (.bool au) ∧ W.cell? ⟨g, 2, none⟩ = some (.bool le) ∧ W.cell? ⟨g, 3, none⟩ = some (.bool pa) ∧ W.cell? ⟨g, 4, none⟩ = some (.bool be) ∧ W.cell? ⟨g, 5, none⟩ = some (.bool co) ∧ W.cell? ⟨g, 6, none⟩ = some (.bool nu) ∧ W.cell? ⟨g, 7, none⟩ = some (.slice wa ws.length ws.length) ∧ W.cell? ⟨g, 8, none⟩ = some (.int .i64 kk) ∧ W.cell? ⟨g, 9, none⟩ = some (.int .i64 nn)) from fun W hW => ⟨hW, HK.out W hW⟩)
  have hB0 : Below W1.heap.size W1 W1 := Below.refl _ _
  have hKeep := HK2.out
  clear HK2 HK
  go_region_held3 (fun W => Below W1.heap.size W1 W ∧ W.cell? ⟨g, 0, none⟩ = some (.string nm) ∧ W.cell? ⟨g, 1, none⟩ = some (.bool au) ∧ W.cell? ⟨g, 2, none⟩ = some (.bool le) ∧ W.cell? ⟨g, 3, none⟩ = some (.bool pa) ∧ W.cell? ⟨g, 4, none⟩ = some (.bool be) ∧ W.cell? ⟨g, 5, none⟩ = some (.bool co) ∧ W.cell? ⟨g, 6, none⟩ = some (.bool nu) ∧ W.cell? ⟨g, 7, none⟩ = some (.slice wa ws.length ws.length) ∧ W.cell? ⟨g, 8, none⟩ = some (.int .i64 kk) ∧ W.cell? ⟨g, 9, none⟩ = some (.int .i64 nn))
    (first | exact hKeep _ (below_drew1 hB0) | exact hKeep _ (below_alloc (below_drew1 hB0) _) | exact hKeep _ b4 | exact hKeep _ (below_alloc b4 _) | exact hKeep _ b3 | exact hKeep _ (below_alloc b3 _) | exact hKeep _ b2 | exact hKeep _ (below_alloc b2 _) | exact hKeep _ ((b4.setCell (by exact b3.size) _).setCell (by exact b3.size) _) | exact hKeep _ ((b4.setCell (by exact b2.size) _).setCell (by exact b2.size) _) | exact hKeep _ ((b4.setCell (by exact Nat.le_refl _) _).setCell (by exact Nat.le_refl _) _) | exact hKeep _ (((below_alloc b4 _).setCell (by exact b4.size) _).setCell (by exact b4.size) _) | go_keep)
    ((first
    | (go_at_call 91; refine (hT _).mono ?_; rintro e w2 ⟨rfl, hB2⟩; have b2 : Below W1.heap.size W1 w2 := (by first | exact below_then (below_drew1 hB0) (Nat.le_refl _) hB2 | exact below_then (below_alloc (below_drew1 hB0) _) (below_alloc (below_drew1 hB0) _).size hB2); obtain ⟨hc2, hf2⟩ := bcell hB2; (try have z2 : W1.heap.size < w2.heap.size := (by have q : (W1.alloc (Obj.cells #[.int .i64 0, .int .i64 0] 109)).heap.size ≤ w2.heap.size := hB2.size; rw [alloc_size] at q; exact q)))
    | (go_at_call 41; refine (hL _).mono ?_; rintro e w3 ⟨rfl, hB3⟩; have b3 : Below W1.heap.size W1 w3 := (by first | exact below_then b2 b2.size hB3 | exact below_then (below_alloc b2 _) (below_alloc b2 _).size hB3); obtain ⟨hc3, hf3⟩ := bcell hB3; (try have z3 : w2.heap.size < w3.heap.size := (by have q := hB3.size; rw [alloc_size] at q; exact q)); (try have yz23 : W1.heap.size < w3.heap.size := Nat.lt_of_lt_of_le z2 hB3.size))
    | (go_at_call 145; refine (HA.out _ _ _ _ _ _ (by first | exact HS1.out.below b3 | exact HS1.out.below (below_alloc b3 _))).mono ?_; rintro e w4 ⟨rfl, hB4⟩; have b4 : Below W1.heap.size W1 w4 := (by first | exact below_then b3 b3.size hB4 | exact below_then (below_alloc b3 _) (below_alloc b3 _).size hB4); obtain ⟨hc4, hf4⟩ := bcell hB4; (try have z4 : w3.heap.size < w4.heap.size := (by have q := hB4.size; rw [alloc_size] at q; exact q)); (try have yz34 : w2.heap.size < w4.heap.size := Nat.lt_of_lt_of_le z3 hB4.size); (try have yyz234 : W1.heap.size < w4.heap.size := Nat.lt_of_lt_of_le yz23 hB4.size))))
  all_goals
    have s2 : w.heap.size < w2.heap.size := Nat.lt_of_lt_of_le hg4 b2.size
    have s3 : w.heap.size < w3.heap.size := Nat.lt_of_lt_of_le hg4 b3.size
    have s4 : w.heap.size < w4.heap.size := Nat.lt_of_lt_of_le hg4 b4.size
    have P4 := Lib.hid (below_then P1.out P1.out.size b4)
    have k40 : w4.cell? ⟨w.heap.size, 0, none⟩ = some (.int .i64 0) := (b4.cell (p := ⟨w.heap.size, 0, none⟩) hg4).trans hcell4.1
    have k41 : w4.cell? ⟨w.heap.size, 1, none⟩ = some (.int .i64 0) := (b4.cell (p := ⟨w.heap.size, 1, none⟩) hg4).trans hcell4.2
    have f40 : w4.frozen? ⟨w.heap.size, 0, none⟩ = false := (b4.frozen (p := ⟨w.heap.size, 0, none⟩) hg4).trans hfz.1
    have f41 : w4.frozen? ⟨w.heap.size, 1, none⟩ = false := (b4.frozen (p := ⟨w.heap.size, 1, none⟩) hg4).trans hfz.2
    try have t30 : w4.cell? ⟨w3.heap.size, 0, none⟩ = some (.int .i64 0) := by rw [hc4 _ _ (by rw [alloc_size]; omega)]; exact cell_of_row _ _ _ _ _ _ (heap_alloc_new _ _)
    try have t20 : w4.cell? ⟨w2.heap.size, 0, none⟩ = some (.int .i64 0) := by rw [hc4 _ _ z3, hc3 _ _ (by rw [alloc_size]; omega)]; exact cell_of_row _ _ _ _ _ _ (heap_alloc_new _ _)
    try have t10 : w4.cell? ⟨W1.heap.size, 0, none⟩ = some (.int .i64 0) := by rw [hc4 _ _ yz23, hc3 _ _ z2, hc2 _ _ (by show W1.heap.size < (W1.alloc _).heap.size; rw [alloc_size]; omega)]; exact cell_of_row _ _ _ _ _ _ (heap_alloc_new W1 _)
    try have t31 : w4.cell? ⟨w3.heap.size, 1, none⟩ = some (.int .i64 0) := by rw [hc4 _ _ (by rw [alloc_size]; omega)]; exact cell_of_row _ _ _ _ _ _ (heap_alloc_new _ _)
    try have t21 : w4.cell? ⟨w2.heap.size, 1, none⟩ = some (.int .i64 0) := by rw [hc4 _ _ z3, hc3 _ _ (by rw [alloc_size]; omega)]; exact cell_of_row _ _ _ _ _ _ (heap_alloc_new _ _)
    try have t11 : w4.cell? ⟨W1.heap.size, 1, none⟩ = some (.int .i64 0) := by rw [hc4 _ _ yz23, hc3 _ _ z2, hc2 _ _ (by show W1.heap.size < (W1.alloc _).heap.size; rw [alloc_size]; omega)]; exact cell_of_row _ _ _ _ _ _ (heap_alloc_new W1 _)
    clear hcell4 hfz hKeep hc hf hz HS1 P1 b2 b3 hc2 hc3 hc4 hf2 hf3 hf4 c0 c1 c2 c3 c4 c5 c6 c7 c8 c9
    cases c with
    | false =>
      have HK := Lib.hid (show readV p s = ((0, 0), false) from hR.out)
      clear hR
      go_wp2
      refine bodyPost_ret (v := .tuple #[.agg #[.int .i64 0, .int .i64 0], .bool false]) (by simp [results, Tryz.results108, go_sem, k40, k41, s4, s3, s2, hg4, Nat.ne_of_gt s4, Nat.ne_of_gt s3, Nat.ne_of_gt s2, Nat.ne_of_gt hg4, Nat.ne_of_lt s4, Nat.ne_of_lt s3, Nat.ne_of_lt s2, Nat.ne_of_lt hg4]) rfl ⟨(show _ = Ending.returned (Value.tuple #[.agg #[.int .i64 0, .int .i64 0], .bool false]) from rfl).trans (by rw [HK.out]), ?_⟩
      first | exact ((below_alloc P4.out _).setCell (by simp) _).setCell (by simp) _ | exact (((P4.out.setCell (by simp; omega) _).setCell (by simp; omega) _).setCell (by simp) _).setCell (by simp) _ | exact below_alloc ((P4.out.setCell (by simp) _).setCell (by simp) _) _
    | true =>
      cases m with
      | false =>
        have HK := Lib.hid (show readV p s = ((0, 0), false) from hR.out)
        clear hR
        go_wp2_with (go_at_call 74; refine (HMM.out _).mono ?_; rintro e w5 ⟨rfl, hB5⟩; obtain ⟨hc5, hf5⟩ := bcell hB5; have s5 : w.heap.size < w5.heap.size := (by have q := hB5.size; simp at q; omega); have k50 : w5.cell? ⟨w.heap.size, 0, none⟩ = some (.int .i64 0) := (by rw [hc5 _ _ (by simp; omega)]; simp [k40, s4, go_sem, Nat.ne_of_gt s4, Nat.ne_of_gt s3, Nat.ne_of_gt s2, Nat.ne_of_gt hg4, Nat.ne_of_lt s4, Nat.ne_of_lt s3, Nat.ne_of_lt s2, Nat.ne_of_lt hg4]); have k51 : w5.cell? ⟨w.heap.size, 1, none⟩ = some (.int .i64 0) := (by rw [hc5 _ _ (by simp; omega)]; simp [k41, s4, go_sem, Nat.ne_of_gt s4, Nat.ne_of_gt s3, Nat.ne_of_gt s2, Nat.ne_of_gt hg4, Nat.ne_of_lt s4, Nat.ne_of_lt s3, Nat.ne_of_lt s2, Nat.ne_of_lt hg4]))
        refine bodyPost_ret (v := .tuple #[.agg #[.int .i64 0, .int .i64 0], .bool false]) (by simp [results, Tryz.results108, go_sem, k50, k51, s5]) rfl ⟨(show _ = Ending.returned (Value.tuple #[.agg #[.int .i64 0, .int .i64 0], .bool false]) from rfl).trans (by rw [HK.out]), ?_⟩
        exact ((below_then (by first | exact below_alloc P4.out _ | exact (P4.out.setCell (by simp; omega) _).setCell (by simp; omega) _) (by first | exact (below_alloc P4.out _).size | (simp; omega)) hB5).setCell (by exact Nat.le_refl _) _).setCell (by exact Nat.le_refl _) _
      | true =>
        have HK := Lib.hid (show readV p s = ((a, b), true) from hR.out)
        clear hR
        go_wp2_with (go_at_call 74; refine (HMM.out _).mono ?_; rintro e w5 ⟨rfl, hB5⟩; obtain ⟨hc5, hf5⟩ := bcell hB5; have s5 : w.heap.size < w5.heap.size := (by have q := hB5.size; simp at q; omega); have k50 : w5.cell? ⟨w.heap.size, 0, none⟩ = some (.int .i64 0) := (by rw [hc5 _ _ (by simp; omega)]; simp [k40, s4, go_sem, Nat.ne_of_gt s4, Nat.ne_of_gt s3, Nat.ne_of_gt s2, Nat.ne_of_gt hg4, Nat.ne_of_lt s4, Nat.ne_of_lt s3, Nat.ne_of_lt s2, Nat.ne_of_lt hg4]); have k51 : w5.cell? ⟨w.heap.size, 1, none⟩ = some (.int .i64 0) := (by rw [hc5 _ _ (by simp; omega)]; simp [k41, s4, go_sem, Nat.ne_of_gt s4, Nat.ne_of_gt s3, Nat.ne_of_gt s2, Nat.ne_of_gt hg4, Nat.ne_of_lt s4, Nat.ne_of_lt s3, Nat.ne_of_lt s2, Nat.ne_of_lt hg4]))
        refine bodyPost_ret (v := .tuple #[.agg #[.int .i64 a, .int .i64 b], .bool true]) (by simp [results, Tryz.results108, go_sem, k50, k51, s5]) rfl ⟨(show _ = Ending.returned (Value.tuple #[.agg #[.int .i64 a, .int .i64 b], .bool true]) from rfl).trans (by rw [HK.out]), ?_⟩
        exact ((below_then (by first | exact below_alloc P4.out _ | exact (P4.out.setCell (by simp; omega) _).setCell (by simp; omega) _) (by first | exact (below_alloc P4.out _).size | (simp; omega)) hB5).setCell (by exact Nat.le_refl _) _).setCell (by exact Nat.le_refl _) _
end Go.Proofs.Val
set_option linter.unusedVariables false
set_option linter.unusedSimpArgs false
namespace Go.Proofs.Val
open Go.RowKit Go.Proofs Go.Proofs.YtolfpgccebdlpaaGreatDoorW.PrintWords
def printL (p : Nat) (k n : Int) : List UInt8 :=
  if mayV p k n = true then
    (if k = 1 then autoW else if k = 4 then 35 :: hexL n.toNat else if k = 5 then ((wordsP p).getD n.toNat ByteArray.empty).data.toList
      else if k = 2 then decL n ++ [112, 120] else if k = 3 then decL n ++ [37] else decL n)
  else []
def printV (p k n : Int) : ByteArray := ⟨(printL (cl p) k n).toArray⟩
theorem low_ge (p : Nat) : -63999999999 ≤ lowV p := by unfold lowV; split <;> omega
/-- what may be, by its kind -/
theorem may_kinds {p : Nat} {k n : Int} (h : mayV p k n = true) :
    (k = 1 ∧ n = 0 ∧ (rec0 p).auto = true) ∨ (k = 2 ∧ lowV p ≤ n ∧ n ≤ 63999999999 ∧ (rec0 p).length = true) ∨ (k = 3 ∧ 0 ≤ n ∧ n ≤ 63999999999 ∧ (rec0 p).part = true) ∨ (k = 4 ∧ 0 ≤ n ∧ n ≤ 16777215 ∧ (rec0 p).color = true) ∨ (k = 5 ∧ 0 ≤ n ∧ n < ((rec0 p).wn : Int)) ∨ (k = 6 ∧ lowV p ≤ n ∧ n ≤ 63999999999 ∧ (rec0 p).number = true) := by
  unfold mayV at h
  by_cases k1 : k = 1
  · rw [if_pos k1, Bool.and_eq_true, decide_eq_true_iff] at h; exact .inl ⟨k1, h.2, h.1⟩
  rw [if_neg k1] at h
  by_cases k2 : k = 2
  · rw [if_pos k2, Bool.and_eq_true, Bool.and_eq_true, decide_eq_true_iff, decide_eq_true_iff] at h; exact .inr (.inl ⟨k2, h.2.1, h.2.2, h.1⟩)
  rw [if_neg k2] at h
  by_cases k3 : k = 3
  · rw [if_pos k3, Bool.and_eq_true, Bool.and_eq_true, decide_eq_true_iff, decide_eq_true_iff] at h; exact .inr (.inr (.inl ⟨k3, h.2.1, h.2.2, h.1⟩))
  rw [if_neg k3] at h
  by_cases k4 : k = 4
  · rw [if_pos k4, Bool.and_eq_true, Bool.and_eq_true, decide_eq_true_iff, decide_eq_true_iff] at h; exact .inr (.inr (.inr (.inl ⟨k4, h.2.1, h.2.2, h.1⟩)))
  rw [if_neg k4] at h
  by_cases k5 : k = 5
  · rw [if_pos k5, Bool.and_eq_true, decide_eq_true_iff, decide_eq_true_iff] at h; exact .inr (.inr (.inr (.inr (.inl ⟨k5, h.1, h.2⟩))))
  rw [if_neg k5] at h
  by_cases k6 : k = 6
  · rw [if_pos k6, Bool.and_eq_true, Bool.and_eq_true, decide_eq_true_iff, decide_eq_true_iff] at h; exact .inr (.inr (.inr (.inr (.inr ⟨k6, h.2.1, h.2.2, h.1⟩))))
  rw [if_neg k6] at h
  cases h
set_option maxHeartbeats 4000000 in
set_option maxRecDepth 100000 in
theorem printC (p k n : Int) (w : World) (hT : Tbs w) :
    Calls Tryz.prog 77 #[.int .i64 p, .agg #[.int .i64 k, .int .i64 n]] w fun e w' => e = .returned (.string (printV p k n)) ∧ Below w.heap.size w w' := by
  have hM := fun w => mayP p k n w
  have HP := Lib.hid (show printV p k n = ⟨(if mayV (cl p) k n = true then
    (if k = 1 then autoW else if k = 4 then 35 :: hexL n.toNat else if k = 5 then ((wordsP (cl p)).getD n.toNat ByteArray.empty).data.toList
      else if k = 2 then decL n ++ [112, 120] else if k = 3 then decL n ++ [37] else decL n)
  else []).toArray⟩ from rfl)
  have p0 : Below w.heap.size w (w.alloc (.cells #[.int .i64 k, .int .i64 n] 109)) := (Below.refl _ _).alloc (Nat.le_refl _) _
  by_cases hm : mayV (cl p) k n = true
  · rw [if_pos hm] at HP
    rw [hm] at hM
    have hD := fun (h1 : -63999999999 ≤ n) (h2 : n ≤ 63999999999) w hT => decimalC n h1 h2 w hT
    have hw5 := wordsP_len (cl p) (cl_le p)
    rcases may_kinds hm with ⟨rfl, rfl, _⟩ | ⟨rfl, h1, h2, _⟩ | ⟨rfl, h1, h2, _⟩ | ⟨rfl, h1, h2, _⟩ | ⟨rfl, h1, h2⟩ | ⟨rfl, h1, h2, _⟩
    · have HK := Lib.hid (show printV p 1 0 = ⟨#[97, 117, 116, 111]⟩ from HP.out)
      clear HP hD hw5 hm
      go_enter Tryz.func77, Tryz.ntmps77
      go_wp2_with (go_at_call 74; refine (hM _).mono ?_; rintro e w1 ⟨rfl, hB1⟩; obtain ⟨hc, hf⟩ := bcell hB1; have hz : w.heap.size < w1.heap.size := (by have q := hB1.size; rw [alloc_size] at q; exact q))
      go_ret
      exact ⟨(show _ = Ending.returned (Value.string ⟨#[97, 117, 116, 111]⟩) from rfl).trans (by rw [HK.out]), p0.trans (hB1.mono p0.size)⟩
    · have q := low_ge (cl p)
      have hDD := hD (by omega) (by omega)
      have hl := decL_len n (by omega) (by omega)
      have hq : ((⟨(decL n).toArray⟩ : ByteArray) ++ ⟨#[112, 120]⟩) = ⟨(decL n ++ [112, 120]).toArray⟩ := ba_app (decL n) [112, 120]
      have hs := ba_size (decL n)
      have HK := Lib.hid (show printV p 2 n = ((⟨(decL n).toArray⟩ : ByteArray) ++ ⟨#[112, 120]⟩) by rw [hq]; exact HP.out)
      have hk : (⟨(decL n).toArray⟩ : ByteArray).size + (⟨#[112, 120]⟩ : ByteArray).size ≤ 9223372036854775807 := by rw [hs]; show _ + 2 ≤ _; omega
      generalize (⟨(decL n).toArray⟩ : ByteArray) = D at hDD hk HK
      clear HP hD hw5 hm hq hs hl q
      go_enter Tryz.func77, Tryz.ntmps77
      go_wp2_with (first | (go_at_call 74; refine (hM _).mono ?_; rintro e w1 ⟨rfl, hB1⟩; obtain ⟨hc, hf⟩ := bcell hB1; have hz : w.heap.size < w1.heap.size := (by have q := hB1.size; rw [alloc_size] at q; exact q)) | (go_at_call 122; refine (hDD _ (hT.below (p0.trans (hB1.mono p0.size)))).mono ?_; rintro e w2 ⟨rfl, hB2⟩))
      go_ret
      exact ⟨(show _ = Ending.returned (Value.string (D ++ ⟨#[112, 120]⟩)) from rfl).trans (by rw [HK.out]), below_then (p0.trans (hB1.mono p0.size)) (p0.trans (hB1.mono p0.size)).size hB2⟩
    · have q := low_ge (cl p)
      have hDD := hD (by omega) (by omega)
      have hl := decL_len n (by omega) (by omega)
      have hq : ((⟨(decL n).toArray⟩ : ByteArray) ++ ⟨#[37]⟩) = ⟨(decL n ++ [37]).toArray⟩ := ba_app (decL n) [37]
      have hs := ba_size (decL n)
      have HK := Lib.hid (show printV p 3 n = ((⟨(decL n).toArray⟩ : ByteArray) ++ ⟨#[37]⟩) by rw [hq]; exact HP.out)
      have hk : (⟨(decL n).toArray⟩ : ByteArray).size + (⟨#[37]⟩ : ByteArray).size ≤ 9223372036854775807 := by rw [hs]; show _ + 1 ≤ _; omega
      generalize (⟨(decL n).toArray⟩ : ByteArray) = D at hDD hk HK
      clear HP hD hw5 hm hq hs hl q
      go_enter Tryz.func77, Tryz.ntmps77
      go_wp2_with (first | (go_at_call 74; refine (hM _).mono ?_; rintro e w1 ⟨rfl, hB1⟩; obtain ⟨hc, hf⟩ := bcell hB1; have hz : w.heap.size < w1.heap.size := (by have q := hB1.size; rw [alloc_size] at q; exact q)) | (go_at_call 122; refine (hDD _ (hT.below (p0.trans (hB1.mono p0.size)))).mono ?_; rintro e w2 ⟨rfl, hB2⟩))
      go_ret
      exact ⟨(show _ = Ending.returned (Value.string (D ++ ⟨#[37]⟩)) from rfl).trans (by rw [HK.out]), below_then (p0.trans (hB1.mono p0.size)) (p0.trans (hB1.mono p0.size)).size hB2⟩
    · obtain ⟨u, rfl⟩ : ∃ u : Nat, n = (u : Int) := ⟨n.toNat, by omega⟩
      have hF := fun w hT => fmt16 u (by omega) w hT
      have ex : (⟨(49 :: hexL u).toArray⟩ : ByteArray).extract 1 (⟨(49 :: hexL u).toArray⟩ : ByteArray).size = ⟨(hexL u).toArray⟩ := by
        rw [Lib.extract_mk]
        congr 2
      have HK := Lib.hid (show printV p 4 (u : Int) = (⟨#[35]⟩ : ByteArray) ++ ((⟨(49 :: hexL u).toArray⟩ : ByteArray).extract 1 (⟨(49 :: hexL u).toArray⟩ : ByteArray).size) by rw [ex]; exact HP.out.trans (ba_app [35] (hexL u)).symm)
      have hz7 : (⟨(49 :: hexL u).toArray⟩ : ByteArray).size = 7 := rfl
      have e1 : ((16777216 + u : Nat) : Int) = 16777216 + (u : Int) := by omega
      rw [e1] at hF
      generalize (⟨(49 :: hexL u).toArray⟩ : ByteArray) = D at hF hz7 HK
      have hz1 : 1 ≤ D.size ∧ D.size ≤ 7 := by omega
      have hk : (⟨#[35]⟩ : ByteArray).size + (D.extract 1 D.size).size ≤ 9223372036854775807 := by rw [ByteArray.size_extract]; show 1 + _ ≤ _; omega
      clear HP hD hw5 hm ex hz7 e1
      go_enter Tryz.func77, Tryz.ntmps77
      go_wp2_with (first | (go_at_call 74; refine (hM _).mono ?_; rintro e w1 ⟨rfl, hB1⟩; obtain ⟨hc, hf⟩ := bcell hB1; have hz : w.heap.size < w1.heap.size := (by have q := hB1.size; rw [alloc_size] at q; exact q)) | (go_at_call 121; refine (hF _ (hT.below (p0.trans (hB1.mono p0.size)))).mono ?_; rintro e w2 ⟨rfl, hB2⟩))
      go_ret
      exact ⟨(show _ = Ending.returned (Value.string ((⟨#[35]⟩ : ByteArray) ++ D.extract 1 D.size)) from rfl).trans (by rw [HK.out]), below_then (p0.trans (hB1.mono p0.size)) (p0.trans (hB1.mono p0.size)).size hB2⟩
    · obtain ⟨u, rfl⟩ : ∃ u : Nat, n = (u : Int) := ⟨n.toNat, by omega⟩
      rw [hw5] at h2
      have hO := fun w => ofP p w
      have hul : u < (wordsP (cl p)).length := by omega
      have HK := Lib.hid (show printV p 5 (u : Int) = (wordsP (cl p)).getD u ByteArray.empty from HP.out.trans (by show (⟨((wordsP (cl p)).getD ((u : Int)).toNat ByteArray.empty).data.toList.toArray⟩ : ByteArray) = _; rw [Int.toNat_natCast]))
      have hW : ∀ w wa, WordsIn w wa (wordsP (cl p)) → ∃ b, wa = some ⟨b, 0, none⟩ ∧ w.cell? ⟨b, 0 + u, none⟩ = some (.string ((wordsP (cl p)).getD u ByteArray.empty)) := by
        intro w wa h
        rcases h.at_ with h | ⟨b, e, h⟩
        · rw [h] at hul; cases hul
        · exact ⟨b, e, h u hul⟩
      have hWL := wordsP_le (cl p)
      have hrec : ∀ wa, recV (recA (cl p) wa) = .agg #[.string (rec0 (cl p)).name, .bool (rec0 (cl p)).auto, .bool (rec0 (cl p)).length, .bool (rec0 (cl p)).part, .bool (rec0 (cl p)).below, .bool (rec0 (cl p)).color, .bool (rec0 (cl p)).number, .slice wa (wordsP (cl p)).length (wordsP (cl p)).length, .int .i64 (rec0 (cl p)).k, .int .i64 (rec0 (cl p)).n] := by
        intro wa
        rw [← hw5]
        rfl
      simp only [hrec] at hO
      generalize (wordsP (cl p)).getD u ByteArray.empty = D at hW HK
      generalize (rec0 (cl p)).name = nm at hO
      generalize (rec0 (cl p)).auto = au at hO
      generalize (rec0 (cl p)).length = le at hO
      generalize (rec0 (cl p)).part = pa at hO
      generalize (rec0 (cl p)).below = be at hO
      generalize (rec0 (cl p)).color = co at hO
      generalize (rec0 (cl p)).number = nu at hO
      generalize (rec0 (cl p)).k = kk at hO
      generalize (rec0 (cl p)).n = nn at hO
      have HW := Lib.hid hW
      have g1 : (u : Int) < ((wordsP (cl p)).length : Int) := by omega
      clear HP hD hw5 hm hrec hW h1 h2
      go_enter Tryz.func77, Tryz.ntmps77
      go_wp2_with (first | (go_at_call 74; refine (hM _).mono ?_; rintro e w1 ⟨rfl, hB1⟩; obtain ⟨hc, hf⟩ := bcell hB1; have hz : w.heap.size < w1.heap.size := (by have q := hB1.size; rw [alloc_size] at q; exact q)) | (go_at_call 116; refine (hO _).mono ?_; rintro e w2 ⟨wa, rfl, hS, hB2⟩; obtain ⟨b, rfl, hcl⟩ := HW.out w2 wa hS; clear hS; rw [Nat.zero_add] at hcl; obtain ⟨hc2, hf2⟩ := bcell hB2; have hz2 : w.heap.size < w2.heap.size := (by have q := hB2.size; omega); have hbl := World.block_lt_of_cell? _ _ hcl))
      go_ret
      exact ⟨(show _ = Ending.returned (Value.string D) from rfl).trans (by rw [HK.out]), below_alloc (below_then (p0.trans (hB1.mono p0.size)) (p0.trans (hB1.mono p0.size)).size hB2) _⟩
    · have q := low_ge (cl p)
      have hDD := hD (by omega) (by omega)
      have HK := Lib.hid (show printV p 6 n = (⟨(decL n).toArray⟩ : ByteArray) from HP.out)
      generalize (⟨(decL n).toArray⟩ : ByteArray) = D at hDD HK
      clear HP hD hw5 hm q
      go_enter Tryz.func77, Tryz.ntmps77
      go_wp2_with (first | (go_at_call 74; refine (hM _).mono ?_; rintro e w1 ⟨rfl, hB1⟩; obtain ⟨hc, hf⟩ := bcell hB1; have hz : w.heap.size < w1.heap.size := (by have q := hB1.size; rw [alloc_size] at q; exact q)) | (go_at_call 122; refine (hDD _ (hT.below (p0.trans (hB1.mono p0.size)))).mono ?_; rintro e w2 ⟨rfl, hB2⟩))
      go_ret
      exact ⟨(show _ = Ending.returned (Value.string D) from rfl).trans (by rw [HK.out]), below_then (p0.trans (hB1.mono p0.size)) (p0.trans (hB1.mono p0.size)).size hB2⟩
  · rw [if_neg hm] at HP
    rw [Bool.eq_false_iff.2 hm] at hM
    clear hm
    go_enter Tryz.func77, Tryz.ntmps77
    go_wp2_with (go_at_call 74; refine (hM _).mono ?_; rintro e w1 ⟨rfl, hB1⟩)
    go_ret
    exact ⟨(show _ = Ending.returned (Value.string ⟨#[]⟩) from rfl).trans (by rw [HP.out]), p0.trans (hB1.mono p0.size)⟩
end Go.Proofs.Val
set_option linter.unusedVariables false
set_option linter.unusedSimpArgs false
namespace Go.Proofs.Sht
open Go.Lib Go.Proofs.Scn
/-- a declaration: its property, kind, number; is it strong? -/
abbrev Dc := Int × Int × Int × Bool
def strongW : List UInt8 := [33, 105, 109, 112, 111, 114, 116, 97, 110, 116]
def propsV (n : ByteArray) : Int × Int :=
  if n.toList = [109, 97, 114, 103, 105, 110] then (4, 4)
  else if n.toList = [112, 97, 100, 100, 105, 110, 103] then (8, 4)
  else if n.toList = [98, 111, 114, 100, 101, 114, 45, 119, 105, 100, 116, 104] then (12, 4)
  else (Val.propV n, 1)
def sharedV (n : Nat) : List Nat := if n = 2 then [0, 1, 0, 1] else if n = 3 then [0, 1, 2, 1] else if n = 4 then [0, 1, 2, 3] else [0, 0, 0, 0]
/-- the values of the first so many texts, in order; none if one does not fit -/
def valsV (p : Int) (ts : List ByteArray) (im : Bool) (wh : List Nat) : Nat → Nat → List Dc → List Dc
  | 0, _, acc => acc
  | d + 1, i, acc =>
    let r := Val.readV (p + i) (ts.getD (wh.getD i 0) ByteArray.empty)
    if r.2 = true then valsV p ts im wh d (i + 1) (acc ++ [(p + i, r.1.1, r.1.2, im)]) else []
def textsV (many : Int) (t : ByteArray) : List ByteArray := if many = 4 then wordsV t else [t]
def declV (s : ByteArray) : List Dc :=
  let c := Lib.cut s.data.toList [58]
  let pm := propsV (lowV (trimV (ba c.1)))
  if c.2.2 = true ∧ pm.1 ≠ 0 then
    let t := lowV (trimV (ba c.2.1))
    let ts := textsV pm.2 (ba (Lib.trimSuffix t.data.toList strongW))
    if 0 < ts.length ∧ ts.length ≤ 4 then valsV pm.1 ts (Lib.hasSuffix t.data.toList strongW) (sharedV ts.length) pm.2.toNat 0 []
    else []
  else []
/-- of one part that is trimmed by the way -/
def partD (p : List UInt8) : List Dc := declV (ba (trimL p))
def declsV (s : ByteArray) : List Dc := (spl 59 s.data.toList).flatMap partD
end Go.Proofs.Sht
set_option linter.unusedVariables false
set_option linter.unusedSimpArgs false
namespace Go.Proofs.Sht
open Go.RowKit Go.Lib Go.Proofs.YtolfpgccebdlpaaGreatDoorW.PrintWords Go.Proofs.YtolfpgccebdlpaaGreatDoorW.PrintLast Go.Proofs.YtolfpgccebdlpaaGreatDoorW.PrintMore Go.Proofs.Tok
/-- a selector: its parts; is each close to the one ahead? -/
abbrev Sel := List Smp × List Bool
/-- a rule: its selectors, its declarations -/
abbrev Rl := List Sel × List Dc
def kSel : Kd Sel := Kd.pair (Kd.slice 80 kSmp) (Kd.slice 4 Kd.bool)
def kDc : Kd Dc := Kd.pair (Kd.int .i64) (Kd.pair (Kd.int .i64) (Kd.pair (Kd.int .i64) Kd.bool))
def kRl : Kd Rl := Kd.pair (Kd.slice 25 kSel) (Kd.slice 111 kDc)
def zSel : Sel := ([], [])
def zDc : Dc := (0, 0, 0, false)
def zRl : Rl := ([], [])
theorem two_open {α β : Type} {a : Kd α} {b : Kd β} {e1 e2 : Nat} {w : World} {x : List α × List β} {cs : List Value} (h : (Kd.pair (Kd.slice e1 a) (Kd.slice e2 b)).K w x cs) : ∃ A1 c1 A2 c2, cs = [.slice A1 x.1.length c1, .slice A2 x.2.length c2] ∧ x.1.length ≤ c1 ∧ a.C w A1 x.1.length x.1 ∧ x.2.length ≤ c2 ∧ b.C w A2 x.2.length x.2 := by
  obtain ⟨_, _, rfl, ⟨A1, c1, rfl, l1, g1⟩, ⟨A2, c2, rfl, l2, g2⟩⟩ := h
  exact ⟨A1, c1, A2, c2, rfl, l1, g1, l2, g2⟩
theorem at_two {α β : Type} {a : Kd α} {b : Kd β} {e1 e2 : Nat} {w : World} {A : Option Addr} {n : Nat} {xs : List (List α × List β)} (h : Kd.C (Kd.pair (Kd.slice e1 a) (Kd.slice e2 b)) w A n xs) (k : Nat) (hk : k < n) (hx : k < xs.length) : ∃ ad A1 c1 A2 c2, A = some ad ∧ w.cell? (ad.add (k * 2)) = some (.slice A1 xs[k].1.length c1) ∧ w.cell? ⟨(ad.add (k * 2)).block, (ad.add (k * 2)).off + 1, none⟩ = some (.slice A2 xs[k].2.length c2) ∧ xs[k].1.length ≤ c1 ∧ a.C w A1 xs[k].1.length xs[k].1 ∧ xs[k].2.length ≤ c2 ∧ b.C w A2 xs[k].2.length xs[k].2 := by
  obtain ⟨ad, c, e, _, hK, hc0⟩ := Kd.C_get h ([], []) (k : Int) (by omega) (by omega)
  have hg : xs.getD (k : Int).toNat ([], []) = xs[k] := by rw [Int.toNat_natCast, List.getD, List.getElem?_eq_getElem hx]; rfl
  rw [hg] at hK
  have hc : ∀ j u, c[j]? = some u → w.cell? (ad.add (k * 2 + j)) = some u := hc0
  obtain ⟨A1, c1, A2, c2, rfl, l1, g1, l2, g2⟩ := two_open hK
  exact ⟨ad, A1, c1, A2, c2, e, hc 0 _ rfl, by rw [← add_field _ _ 1 (by omega)]; exact hc 1 _ rfl, l1, g1, l2, g2⟩
theorem at_Dc {w : World} {A : Option Addr} {n : Nat} {xs : List Dc} (h : Kd.C kDc w A n xs) (k : Nat) (hk : k < n) (hx : k < xs.length) : ∃ ad, A = some ad ∧ w.cell? (ad.add (k * 4)) = some (.int .i64 xs[k].1) ∧ w.cell? ⟨(ad.add (k * 4)).block, (ad.add (k * 4)).off + 1, none⟩ = some (.int .i64 xs[k].2.1) ∧ w.cell? ⟨(ad.add (k * 4)).block, (ad.add (k * 4)).off + 2, none⟩ = some (.int .i64 xs[k].2.2.1) ∧ w.cell? ⟨(ad.add (k * 4)).block, (ad.add (k * 4)).off + 3, none⟩ = some (.bool xs[k].2.2.2) := by
  obtain ⟨ad, c, e, _, hK, hc0⟩ := Kd.C_get h zDc (k : Int) (by omega) (by omega)
  have hg : xs.getD (k : Int).toNat zDc = xs[k] := by rw [Int.toNat_natCast, List.getD, List.getElem?_eq_getElem hx]; rfl
  rw [hg] at hK
  have hc : ∀ j u, c[j]? = some u → w.cell? (ad.add (k * 4 + j)) = some u := hc0
  obtain ⟨_, _, rfl, rfl, ⟨_, _, rfl, rfl, ⟨_, _, rfl, rfl, rfl⟩⟩⟩ := hK
  exact ⟨ad, e, hc 0 _ rfl, by rw [← add_field _ _ 1 (by omega)]; exact hc 1 _ rfl, by rw [← add_field _ _ 2 (by omega)]; exact hc 2 _ rfl, by rw [← add_field _ _ 3 (by omega)]; exact hc 3 _ rfl⟩
theorem reps_map {α β : Type} {p : α → List Value → Prop} {q : β → List Value → Prop} {f : α → β} {z : Nat} {xs : List α} {l : List Value} (h : ∀ x cs, p x cs → q (f x) cs) (H : Reps p z xs l) : Reps q z (xs.map f) l := by
  refine ⟨by rw [List.length_map]; exact H.1, fun j y hj => ?_⟩
  rw [List.getElem?_map] at hj
  obtain ⟨x, hx, rfl⟩ := Option.map_eq_some_iff.1 hj
  exact h _ _ (H.2 j x hx)
theorem R_to {α β : Type} {d : Kd α} {d' : Kd β} {f : α → β} {e base : Nat} {ok : Nat → Prop} {w : World} {v : Value} {xs : List α} (hs : d'.sz = d.sz) (h : ∀ w ok x cs, d.M w base ok x cs → d'.M w base ok (f x) cs) (H : d.R e w base ok v xs) : d'.R e w base ok v (xs.map f) := by
  obtain ⟨h0, inner, ho, hr⟩ := H
  refine ⟨h0, inner, ?_, ?_⟩
  · rw [List.length_map, hs]; exact ho
  · rw [hs]; exact reps_map (fun x cs hx => h _ _ x cs hx) hr
theorem C_to {α β : Type} {d : Kd α} {d' : Kd β} {f : α → β} {w : World} {A : Option Addr} {n : Nat} {xs : List α} (hs : d'.sz = d.sz) (h : ∀ w x cs, d.K w x cs → d'.K w (f x) cs) (H : d.C w A n xs) : d'.C w A n (xs.map f) := by
  obtain ⟨h1, h2, h3⟩ := H
  refine ⟨by rw [List.length_map]; exact h1, h2, fun hn => ?_⟩
  obtain ⟨ad, e, hc⟩ := h3 hn
  refine ⟨ad, e, fun j p hj => ?_⟩
  rw [List.getElem?_map] at hj
  obtain ⟨x, hx, rfl⟩ := Option.map_eq_some_iff.1 hj
  rw [hs]
  obtain ⟨c, q1, q2, q3⟩ := hc j x hx
  exact ⟨c, q1, h _ _ _ q2, q3⟩
def maySel (x : Sel) : Bool := mayS x.1 x.2.length
def mayDc (d : Dc) : Bool := Val.mayV (Val.cl d.1) d.2.1 d.2.2.1
def fitS (x : Sel) : Prop := x.1.length ≤ 140737488355328 ∧ x.2.length ≤ 9223372036854775807 ∧ ∀ p ∈ x.1, fitX p
set_option maxHeartbeats 4000000 in
set_option maxRecDepth 400000 in
theorem mays_any (x : Sel) (hx : fitS x) (A1 : Option Addr) (c1 : Nat) (A2 : Option Addr) (c2 : Nat) (w : World) (C1 : Kd.C kSmp w A1 x.1.length x.1) :
    Calls Tryz.prog 71 #[.agg #[.slice A1 x.1.length c1, .slice A2 x.2.length c2]] w fun e w' => e = .returned (.bool (!maySel x)) ∧ Below w.heap.size w w' := by
  have hm := fun W hW => May_any x.1 A1 c1 A2 x.2.length c2 W (Kd.C_below C1 hW) hx.1 hx.2.1 hx.2.2
  unfold maySel
  generalize mayS x.1 x.2.length = r at hm ⊢
  generalize x.1.length = n1 at hm ⊢
  generalize x.2.length = n2 at hm ⊢
  have hu25 := Tryz.underlying25
  have HM := Aside0.mk hm
  clear hm C1
  go_enter Tryz.func71, Tryz.ntmps71
  go_wp2_with (first | (go_at_call 17; refine (HM.out _ (by repeat (first | exact Below.refl _ _ | apply below_alloc))).mono ?_; rintro e w' ⟨rfl, hB⟩))
  go_ret
  exact ⟨rfl, below_then (below_alloc (Below.refl _ _) _) (Nat.le_trans (Nat.le_succ _) (Nat.le_of_eq (alloc_size _ _).symm)) hB⟩
set_option maxHeartbeats 4000000 in
set_option maxRecDepth 400000 in
theorem mayd_any (p k n : Int) (s : Bool) (w : World) :
    Calls Tryz.prog 73 #[.agg #[.int .i64 p, .int .i64 k, .int .i64 n, .bool s]] w fun e w' => e = .returned (.bool (!mayDc (p, k, n, s))) ∧ Below w.heap.size w w' := by
  have hm := fun W => Val.mayP p k n W
  have hX : mayDc (p, k, n, s) = Val.mayV (Val.cl p) k n := rfl
  rw [hX]
  clear hX
  generalize Val.mayV (Val.cl p) k n = r at hm ⊢
  have hu := Tryz.underlying111
  have hu2 := Tryz.underlying109
  have HM := Aside0.mk hm
  clear hm
  go_enter Tryz.func73, Tryz.ntmps73
  go_wp2_with (first | (go_at_call 74; refine (HM.out _).mono ?_; rintro e w' ⟨rfl, hB⟩))
  go_ret
  exact ⟨rfl, below_then (below_alloc (Below.refl _ _) _) (Nat.le_trans (Nat.le_succ _) (Nat.le_of_eq (alloc_size _ _).symm)) hB⟩
set_option maxHeartbeats 4000000 in
set_option maxRecDepth 400000 in
theorem index_sels (xs : List Sel) (A : Option Addr) (c : Nat) (w : World) (C : Kd.C kSel w A xs.length xs) (hl : xs.length ≤ 8796093022208) (hs : ∀ x ∈ xs, fitS x) :
    Calls Tryz.prog 114 #[.slice A xs.length c, .func (.func 71) #[] #[]] w fun e w' => Below w.heap.size w w' ∧ ∃ i : Int, e = .returned (.int .i64 i) ∧ decide (0 ≤ i) = xs.any fun x => !maySel x := by
  have C0 := Aside0.mk C
  have HS := Aside0.mk hs
  clear hs
  clear C
  have hu44 := Tryz.underlying25
  go_enter Tryz.func114, Tryz.ntmps114
  go_wp2
  go_loopw [5, 8, 9, 10, 11, 12, 13, 14, 15, 16, 18] (fun _ i _ _ _ _ _ _ _ _ _ wr => ∃ k : Nat, k ≤ xs.length ∧ i = .int .i64 k ∧ Aside0 (((xs.take k).any fun x => !maySel x) = false) ∧ Aside0 (Below w.heap.size w wr)) (fun _ i _ _ _ _ _ _ _ _ _ _ => xs.length - (RowKit.intOf i).toNat)
  case atStart => exact ⟨0, Nat.zero_le _, rfl, ⟨rfl⟩, ⟨Below.refl _ _⟩⟩
  case round =>
    obtain ⟨k, hk, rfl, N1, B1⟩ := hrel
    by_cases hlt : k < xs.length
    · have g1 : decide ((k : Int) < (xs.length : Int)) = true := decide_eq_true (by omega)
      obtain ⟨ad, A1, c1, A2, c2, e, h0, h1, q1, C1, q2, C2⟩ := at_two C0.out k hlt hlt
      subst e
      have hB := fun (p : Addr) (v : Value) (h : w.cell? p = some v) => (B1.out.cell (World.block_lt_of_cell? _ _ h)).trans h
      have k0 := hB _ _ h0
      have k1 := hB _ _ h1
      have hx := fun W hW => mays_any xs[k] (HS.out _ (List.getElem_mem hlt)) A1 c1 A2 c2 W (Kd.C_below C1 hW)
      have T1 : Aside0 (((xs.take (k + 1)).any fun x => !maySel x) = (((xs.take k).any fun x => !maySel x) || !maySel xs[k])) := ⟨by rw [List.take_succ_eq_append_getElem hlt, List.any_append]; simp⟩
      have T2 : Aside0 (maySel xs[k] = false → (xs.any fun x => !maySel x) = true) := ⟨fun h => List.any_eq_true.2 ⟨xs[k], List.getElem_mem hlt, by rw [h]; rfl⟩⟩
      clear h0 h1 q1 q2 C1 C2 hB
      generalize xs[k] = x at hx k0 k1 T1 T2
      obtain ⟨b, hb⟩ : ∃ b, maySel x = b := ⟨_, rfl⟩
      have HN := Aside0.mk hb
      rw [hb] at hx
      have HX := Aside0.mk hx
      clear hb hx
      cases b with
      | false =>
        go_wp2_with (first | (go_at_call 71; refine (HX.out _ B1.out).mono ?_; rintro e w' ⟨rfl, hB⟩))
        go_ret
        exact ⟨below_then B1.out B1.out.size hB, _, rfl, by rw [T2.out HN.out]; simp⟩
      | true =>
        go_wp2_with (first | (go_at_call 71; refine (HX.out _ B1.out).mono ?_; rintro e w' ⟨rfl, hB⟩))
        exact ⟨⟨k + 1, by omega, by go_num, ⟨by rw [T1.out, N1.out, HN.out]; rfl⟩, ⟨below_then B1.out B1.out.size hB⟩⟩, by simp [RowKit.intOf]; omega⟩
    · obtain rfl : k = xs.length := by omega
      have g1 : decide ((xs.length : Int) < (xs.length : Int)) = false := decide_eq_false (by omega)
      have hN := N1.out
      rw [List.take_length] at hN
      have N2 := Aside0.mk hN
      clear hN N1
      go_wp2
      go_ret
      exact ⟨B1.out, _, rfl, by rw [N2.out]; rfl⟩
set_option maxHeartbeats 2000000 in
set_option maxRecDepth 400000 in
theorem contains_sels (xs : List Sel) (A : Option Addr) (c : Nat) (w : World) (C : Kd.C kSel w A xs.length xs) (hl : xs.length ≤ 8796093022208) (hs : ∀ x ∈ xs, fitS x) :
    Calls Tryz.prog 70 #[.slice A xs.length c, .func (.func 71) #[] #[]] w fun e w' => e = .returned (.bool (xs.any fun x => !maySel x)) ∧ Below w.heap.size w w' := by
  have hi := index_sels xs A c w C hl hs
  clear C
  generalize (xs.any fun x => !maySel x) = r at hi ⊢
  go_enter Tryz.func70, Tryz.ntmps70
  go_wp2_with (first | (go_at_call 114; refine hi.mono ?_; rintro e w' ⟨hB, i, rfl, hd⟩))
  go_ret
  exact ⟨by rw [← hd]; rfl, hB⟩
set_option maxHeartbeats 4000000 in
set_option maxRecDepth 400000 in
theorem index_decls (xs : List Dc) (A : Option Addr) (c : Nat) (w : World) (C : Kd.C kDc w A xs.length xs) (hl : xs.length ≤ 8796093022208) :
    Calls Tryz.prog 115 #[.slice A xs.length c, .func (.func 73) #[] #[]] w fun e w' => Below w.heap.size w w' ∧ ∃ i : Int, e = .returned (.int .i64 i) ∧ decide (0 ≤ i) = xs.any fun x => !mayDc x := by
  have C0 := Aside0.mk C
  clear C
  have hu44 := Tryz.underlying111
  go_enter Tryz.func115, Tryz.ntmps115
  go_wp2
  go_loopw [5, 8, 9, 10, 11, 12, 13, 14, 15, 16, 18] (fun _ i _ _ _ _ _ _ _ _ _ wr => ∃ k : Nat, k ≤ xs.length ∧ i = .int .i64 k ∧ Aside0 (((xs.take k).any fun x => !mayDc x) = false) ∧ Aside0 (Below w.heap.size w wr)) (fun _ i _ _ _ _ _ _ _ _ _ _ => xs.length - (RowKit.intOf i).toNat)
  case atStart => exact ⟨0, Nat.zero_le _, rfl, ⟨rfl⟩, ⟨Below.refl _ _⟩⟩
  case round =>
    obtain ⟨k, hk, rfl, N1, B1⟩ := hrel
    by_cases hlt : k < xs.length
    · have g1 : decide ((k : Int) < (xs.length : Int)) = true := decide_eq_true (by omega)
      obtain ⟨ad, e, h0, h1, h2, h3⟩ := at_Dc C0.out k hlt hlt
      subst e
      have hB := fun (p : Addr) (v : Value) (h : w.cell? p = some v) => (B1.out.cell (World.block_lt_of_cell? _ _ h)).trans h
      have k0 := hB _ _ h0
      have k1 := hB _ _ h1
      have k2 := hB _ _ h2
      have k3 := hB _ _ h3
      have hx := fun W hW => (fun _ => mayd_any xs[k].1 xs[k].2.1 xs[k].2.2.1 xs[k].2.2.2 W) (hW : Below w.heap.size w W)
      have T1 : Aside0 (((xs.take (k + 1)).any fun x => !mayDc x) = (((xs.take k).any fun x => !mayDc x) || !mayDc xs[k])) := ⟨by rw [List.take_succ_eq_append_getElem hlt, List.any_append]; simp⟩
      have T2 : Aside0 (mayDc xs[k] = false → (xs.any fun x => !mayDc x) = true) := ⟨fun h => List.any_eq_true.2 ⟨xs[k], List.getElem_mem hlt, by rw [h]; rfl⟩⟩
      clear h0 h1 h2 h3 hB
      generalize xs[k] = x at hx k0 k1 k2 k3 T1 T2
      obtain ⟨x1, x2, x3, x4⟩ := x
      dsimp only at hx k0 k1 k2 k3
      obtain ⟨b, hb⟩ : ∃ b, mayDc (x1, x2, x3, x4) = b := ⟨_, rfl⟩
      have HN := Aside0.mk hb
      rw [hb] at hx
      have HX := Aside0.mk hx
      clear hb hx
      cases b with
      | false =>
        go_wp2_with (first | (go_at_call 73; refine (HX.out _ B1.out).mono ?_; rintro e w' ⟨rfl, hB⟩))
        go_ret
        exact ⟨below_then B1.out B1.out.size hB, _, rfl, by rw [T2.out HN.out]; simp⟩
      | true =>
        go_wp2_with (first | (go_at_call 73; refine (HX.out _ B1.out).mono ?_; rintro e w' ⟨rfl, hB⟩))
        exact ⟨⟨k + 1, by omega, by go_num, ⟨by rw [T1.out, N1.out, HN.out]; rfl⟩, ⟨below_then B1.out B1.out.size hB⟩⟩, by simp [RowKit.intOf]; omega⟩
    · obtain rfl : k = xs.length := by omega
      have g1 : decide ((xs.length : Int) < (xs.length : Int)) = false := decide_eq_false (by omega)
      have hN := N1.out
      rw [List.take_length] at hN
      have N2 := Aside0.mk hN
      clear hN N1
      go_wp2
      go_ret
      exact ⟨B1.out, _, rfl, by rw [N2.out]; rfl⟩
set_option maxHeartbeats 2000000 in
set_option maxRecDepth 400000 in
theorem contains_decls (xs : List Dc) (A : Option Addr) (c : Nat) (w : World) (C : Kd.C kDc w A xs.length xs) (hl : xs.length ≤ 8796093022208) :
    Calls Tryz.prog 72 #[.slice A xs.length c, .func (.func 73) #[] #[]] w fun e w' => e = .returned (.bool (xs.any fun x => !mayDc x)) ∧ Below w.heap.size w w' := by
  have hi := index_decls xs A c w C hl
  clear C
  generalize (xs.any fun x => !mayDc x) = r at hi ⊢
  go_enter Tryz.func72, Tryz.ntmps72
  go_wp2_with (first | (go_at_call 115; refine hi.mono ?_; rintro e w' ⟨hB, i, rfl, hd⟩))
  go_ret
  exact ⟨by rw [← hd]; rfl, hB⟩
def mayR (r : Rl) : Bool := !(r.1.length == 0) && (decide (r.1.length ≤ 20) && (decide (r.2.length ≤ 60) && (!(r.1.any fun x => !maySel x) && !(r.2.any fun x => !mayDc x))))
def mayL (l : List Rl) : Bool := l.all mayR && decide (l.length ≤ 40)
def fitR (r : Rl) : Prop := r.1.length ≤ 8796093022208 ∧ r.2.length ≤ 8796093022208 ∧ ∀ x ∈ r.1, fitS x
theorem one_below {w wr W : World} {o : Obj} (h : Below w.heap.size w wr) (hB : Below (wr.alloc o).heap.size (wr.alloc o) W) : Below w.heap.size w W := by
  have hs := h.size
  exact below_then (below_alloc h _) (by rw [alloc_size]; omega) hB
theorem box_cell {wr W : World} {cs : Array Value} {t : Nat} (hB : Below (wr.alloc (.cells cs t)).heap.size (wr.alloc (.cells cs t)) W) {j : Nat} {v : Value} (h : cs[j]? = some v) : W.cell? ⟨wr.heap.size, j, none⟩ = some v :=
  (hB.cell (p := ⟨wr.heap.size, j, none⟩) (by rw [alloc_size]; show wr.heap.size < _; omega)).trans (alloc_cell _ _ _ _ _ h)
set_option maxHeartbeats 4000000 in
set_option maxRecDepth 400000 in
theorem MayC (xs : List Rl) (A : Option Addr) (c : Nat) (w : World) (C : Kd.C kRl w A xs.length xs) (hl : xs.length ≤ 8796093022208) (hs : ∀ r ∈ xs, fitR r) :
    Calls Tryz.prog 34 #[.slice A xs.length c] w fun e w' => e = .returned (.bool (mayL xs)) ∧ Below w.heap.size w w' := by
  have C0 := Aside0.mk C
  have HS := Aside0.mk hs
  clear C hs
  have hu := Tryz.underlying115
  go_enter Tryz.func34, Tryz.ntmps34
  go_wp2
  go_loopw [4, 7, 8, 9, 10, 11, 12, 13, 14, 15, 16, 17, 18, 19, 20, 21, 22, 23, 24, 25, 26, 27, 28, 29, 30, 31, 32, 33] (fun _ i _ _ _ _ _ _ _ _ _ _ _ _ _ _ _ _ _ _ _ _ _ _ _ _ _ _ wr => ∃ k : Nat, k ≤ xs.length ∧ i = .int .i64 k ∧ Aside0 ((xs.take k).all mayR = true) ∧ Aside0 (Below w.heap.size w wr)) (fun _ i _ _ _ _ _ _ _ _ _ _ _ _ _ _ _ _ _ _ _ _ _ _ _ _ _ _ _ => xs.length - (RowKit.intOf i).toNat)
  case atStart => exact ⟨0, Nat.zero_le _, rfl, ⟨rfl⟩, ⟨Below.refl _ _⟩⟩
  case round =>
    obtain ⟨k, hk, rfl, N1, B1⟩ := hrel
    by_cases hlt : k < xs.length
    · have g1 : decide ((k : Int) < (xs.length : Int)) = true := decide_eq_true (by omega)
      obtain ⟨ad, A1, c1, A2, c2, e, h0, h1, q1, C1, q2, C2⟩ := at_two C0.out k hlt hlt
      subst e
      have hB := fun (p : Addr) (v : Value) (h : w.cell? p = some v) => (B1.out.cell (World.block_lt_of_cell? _ _ h)).trans h
      have x0 := hB _ _ h0
      have x1 := hB _ _ h1
      have F := HS.out _ (List.getElem_mem hlt)
      have H1 := Aside0.mk (fun W (hW : Below w.heap.size w W) => contains_sels xs[k].1 A1 c1 W (Kd.C_below C1 hW) F.1 F.2.2)
      have H2 := Aside0.mk (fun W (hW : Below w.heap.size w W) => contains_decls xs[k].2 A2 c2 W (Kd.C_below C2 hW) F.2.1)
      have T1 : Aside0 ((xs.take (k + 1)).all mayR = ((xs.take k).all mayR && mayR xs[k])) := ⟨by rw [List.take_succ_eq_append_getElem hlt, List.all_append]; simp⟩
      have T2 : Aside0 (mayR xs[k] = false → mayL xs = false) := ⟨fun h => by
        unfold mayL
        rw [List.all_eq_false.2 ⟨xs[k], List.getElem_mem hlt, by rw [h]; decide⟩]
        rfl⟩
      have HM : Aside0 (mayR xs[k] = (!(xs[k].1.length == 0) && (decide (xs[k].1.length ≤ 20) && (decide (xs[k].2.length ≤ 60) && (!(xs[k].1.any fun x => !maySel x) && !(xs[k].2.any fun x => !mayDc x)))))) := ⟨rfl⟩
      have L1 := F.1
      have L2 := F.2.1
      clear h0 h1 q1 q2 C1 C2 F hB
      generalize mayR xs[k] = b at T1 T2 HM
      obtain ⟨r1, hr1⟩ : ∃ r, (xs[k].1.any fun x => !maySel x) = r := ⟨_, rfl⟩
      obtain ⟨r2, hr2⟩ : ∃ r, (xs[k].2.any fun x => !mayDc x) = r := ⟨_, rfl⟩
      obtain ⟨n1, hn1⟩ : ∃ n, xs[k].1.length = n := ⟨_, rfl⟩
      obtain ⟨n2, hn2⟩ : ∃ n, xs[k].2.length = n := ⟨_, rfl⟩
      rw [hr1, hr2, hn1, hn2] at HM
      rw [hr1, hn1] at H1
      rw [hr2, hn2] at H2
      rw [hn1] at x0 L1
      rw [hn2] at x1 L2
      clear hr1 hr2 hn1 hn2
      have Y1 := Aside0.mk (fun (W : World) (hb : Below (wr.alloc (.cells #[.slice A1 n1 c1, .slice A2 n2 c2] 115)).heap.size (wr.alloc (.cells #[.slice A1 n1 c1, .slice A2 n2 c2] 115)) W) => box_cell hb (j := 1) rfl)
      by_cases z0 : n1 = 0
      · subst z0
        as_aux_lemma =>
        go_wp2
        go_ret
        exact ⟨by rw [T2.out (by rw [HM.out]; rfl)]; rfl, below_alloc B1.out _⟩
      have e0 : ((n1 : Int) == 0) = false := beq_eq_false_iff_ne.2 (by omega)
      have f0 : (n1 == 0) = false := beq_eq_false_iff_ne.2 z0
      by_cases z20 : n1 ≤ 20
      · have e20 : decide ((20 : Int) < (n1 : Int)) = false := decide_eq_false (by omega)
        by_cases z60 : n2 ≤ 60
        · have e60 : decide ((60 : Int) < (n2 : Int)) = false := decide_eq_false (by omega)
          cases r1 with
          | true =>
            as_aux_lemma =>
            go_wp2_with (first | (go_at_call 70; refine (H1.out _ (below_alloc B1.out _)).mono ?_; rintro e w' ⟨rfl, hB⟩))
            go_ret
            exact ⟨by rw [T2.out (by rw [HM.out]; simp)]; rfl, one_below B1.out hB⟩
          | false =>
            cases r2 with
            | true =>
              as_aux_lemma =>
              go_wp2_with (first | (go_at_call 70; refine (H1.out _ (below_alloc B1.out _)).mono ?_; rintro e w' ⟨rfl, hB⟩; have y1 := Y1.out _ hB; have HBB := Aside0.mk (one_below B1.out hB); clear hB) | (go_at_call 72; refine (H2.out _ HBB.out).mono ?_; rintro e w2 ⟨rfl, hB⟩))
              go_ret
              exact ⟨by rw [T2.out (by rw [HM.out]; simp)]; rfl, below_then HBB.out HBB.out.size hB⟩
            | false =>
              have HT : Aside0 (b = true) := ⟨by rw [HM.out, f0, decide_eq_true z20, decide_eq_true z60]; rfl⟩
              as_aux_lemma =>
              go_wp2_with (first | (go_at_call 70; refine (H1.out _ (below_alloc B1.out _)).mono ?_; rintro e w' ⟨rfl, hB⟩; have y1 := Y1.out _ hB; have HBB := Aside0.mk (one_below B1.out hB); clear hB) | (go_at_call 72; refine (H2.out _ HBB.out).mono ?_; rintro e w2 ⟨rfl, hB⟩))
              exact ⟨⟨k + 1, by omega, by go_num, ⟨by rw [T1.out, N1.out, HT.out]; rfl⟩, ⟨below_then HBB.out HBB.out.size hB⟩⟩, by simp [RowKit.intOf]; omega⟩
        · have e60 : decide ((60 : Int) < (n2 : Int)) = true := decide_eq_true (by omega)
          as_aux_lemma =>
          go_wp2
          go_ret
          exact ⟨by rw [T2.out (by rw [HM.out, decide_eq_false z60]; simp)]; rfl, below_alloc B1.out _⟩
      · have e20 : decide ((20 : Int) < (n1 : Int)) = true := decide_eq_true (by omega)
        as_aux_lemma =>
        go_wp2
        go_ret
        exact ⟨by rw [T2.out (by rw [HM.out, decide_eq_false z20]; simp)]; rfl, below_alloc B1.out _⟩
    · obtain rfl : k = xs.length := by omega
      have g1 : decide ((xs.length : Int) < (xs.length : Int)) = false := decide_eq_false (by omega)
      have hN := N1.out
      rw [List.take_length] at hN
      have HM : Aside0 (mayL xs = decide (xs.length ≤ 40)) := ⟨by unfold mayL; rw [hN]; rfl⟩
      clear hN N1
      by_cases z : xs.length ≤ 40
      · have e40 : decide ((xs.length : Int) ≤ 40) = true := decide_eq_true (by omega)
        go_wp2
        go_ret
        exact ⟨by rw [HM.out, decide_eq_true z]; rfl, B1.out⟩
      · have e40 : decide ((xs.length : Int) ≤ 40) = false := decide_eq_false (by omega)
        go_wp2
        go_ret
        exact ⟨by rw [HM.out, decide_eq_false z]; rfl, B1.out⟩
end Go.Proofs.Sht
set_option linter.unusedVariables false
set_option linter.unusedSimpArgs false
namespace Go.Proofs.Tok
open Go.RowKit Go.Lib Go.Proofs.YtolfpgccebdlpaaGreatDoorW.PrintWords Go.Proofs.YtolfpgccebdlpaaGreatDoorW.PrintLast Go.Proofs.YtolfpgccebdlpaaGreatDoorW.PrintMore
theorem take_eq {α : Type} {xs ys : List α} {k : Nat} (h : xs.take k = ys.take k) (hx : k < xs.length) (hy : k < ys.length) (e : xs[k] = ys[k]) : xs.take (k + 1) = ys.take (k + 1) := by
  rw [List.take_succ_eq_append_getElem hx, List.take_succ_eq_append_getElem hy, h, e]
theorem str_cell {w : World} {A : Option Addr} {n : Nat} {xs : List ByteArray} (h : Kd.C Kd.string w A n xs) (k : Nat) (hk : k < n) (hx : k < xs.length) : ∃ ad, A = some ad ∧ w.cell? (ad.add k) = some (.string xs[k]) := by
  obtain ⟨ad, e, hc⟩ := Kd.at_string h (k : Int) (by omega) (by omega)
  have hg : rdOf ByteArray.empty xs (k : Int) = xs[k] := by
    unfold rdOf
    rw [Int.toNat_natCast, List.getD, List.getElem?_eq_getElem hx]
    rfl
  rw [hg, Int.toNat_natCast] at hc
  exact ⟨ad, e, hc⟩
theorem bool_cell {w : World} {A : Option Addr} {n : Nat} {xs : List Bool} (h : Kd.C Kd.bool w A n xs) (k : Nat) (hk : k < n) (hx : k < xs.length) : ∃ ad, A = some ad ∧ w.cell? (ad.add k) = some (.bool xs[k]) := by
  obtain ⟨ad, e, hc⟩ := Kd.at_bool h (k : Int) (by omega) (by omega)
  have hg : rdOf false xs (k : Int) = xs[k] := by
    unfold rdOf
    rw [Int.toNat_natCast, List.getD, List.getElem?_eq_getElem hx]
    rfl
  rw [hg, Int.toNat_natCast] at hc
  exact ⟨ad, e, hc⟩
set_option maxHeartbeats 4000000 in
set_option maxRecDepth 400000 in
theorem eq_strs (xs ys : List ByteArray) (A0 A1 : Option Addr) (c0 c1 : Nat) (w : World) (C0 : Kd.C Kd.string w A0 xs.length xs) (C1 : Kd.C Kd.string w A1 ys.length ys) (hl : xs.length ≤ 9223372036854775807) (hl1 : ys.length ≤ 9223372036854775807) :
    Calls Tryz.prog 61 #[.slice A0 xs.length c0, .slice A1 ys.length c1] w fun e w' => e = .returned (.bool (decide (xs = ys))) ∧ Drawn0 w w' := by
  have D0 := Aside0.mk C0
  have D1 := Aside0.mk C1
  clear C0 C1
  by_cases hn : xs.length = ys.length
  · have HN := Aside0.mk hn
    have e0 : (((xs.length : Nat) : Int) == ((xs.length : Nat) : Int)) = true := by simp
    rw [← hn]
    obtain ⟨r, hr⟩ : ∃ r, decide (xs = ys) = r := ⟨_, rfl⟩
    have HR := Aside0.mk hr
    rw [hr]
    clear hr hn hl1
    obtain ⟨n, hn⟩ : ∃ n, xs.length = n := ⟨_, rfl⟩
    have HX := Aside0.mk hn
    rw [hn] at HN e0 hl ⊢
    clear hn
    go_enter Tryz.func61, Tryz.ntmps61
    go_wp2
    go_loopw [5, 13, 14, 15, 16, 17, 18, 19, 20, 21, 22, 23, 24, 25] (fun _ i _ _ _ _ _ _ _ _ _ _ _ _ wr => ∃ k : Nat, k ≤ n ∧ i = .int .i64 k ∧ Aside0 (xs.take k = ys.take k) ∧ Aside0 (Drawn0 w wr)) (fun _ i _ _ _ _ _ _ _ _ _ _ _ _ _ => n - (RowKit.intOf i).toNat)
    case atStart => exact ⟨0, Nat.zero_le _, rfl, ⟨rfl⟩, ⟨Drawn0.refl _⟩⟩
    case round =>
      obtain ⟨k, hk, rfl, T1, B1⟩ := hrel
      by_cases hlt : k < n
      · have g1 : decide ((k : Int) < (n : Int)) = true := decide_eq_true (by omega)
        have hx : k < xs.length := by rw [HX.out]; exact hlt
        have hy : k < ys.length := by rw [← HN.out]; exact hlt
        obtain ⟨a0, ea0, h0⟩ := str_cell D0.out k hx hx
        obtain ⟨a1, ea1, h1⟩ := str_cell D1.out k hy hy
        subst ea0
        subst ea1
        obtain ⟨nd, rfl⟩ := B1.out
        have p1 : ((k : Int) < (n : Int)) := by omega
        have TN : Aside0 (xs[k] = ys[k] → xs.take (k + 1) = ys.take (k + 1)) := ⟨fun e => take_eq T1.out hx hy e⟩
        have TX : Aside0 (xs[k] ≠ ys[k] → xs ≠ ys) := ⟨fun h e => h (by subst e; rfl)⟩
        generalize xs[k] = x at h0 TN TX
        generalize ys[k] = y at h1 TN TX
        by_cases hxy : x = y
        · have e1 : (x.toList == y.toList) = true := by rw [hxy]; simp
          have HE := Aside0.mk hxy
          clear hxy hx hy
          go_wp2
          go_quiet (fail)
          go_wp2
          exact ⟨⟨k + 1, by omega, by go_num, ⟨TN.out HE.out⟩, ⟨by repeat (first | exact Drawn0.refl _ | apply Drawn0.step | exact ⟨_, rfl⟩)⟩⟩, by simp [RowKit.intOf]; omega⟩
        · have e1 : (x.toList == y.toList) = false := beq_eq_false_iff_ne.2 (fun h => hxy (by rw [Lib.toList_data, Lib.toList_data] at h; exact Scn.ba_ext h))
          have HE := Aside0.mk hxy
          clear hxy hx hy
          go_wp2
          go_quiet (fail)
          go_wp2
          go_ret
          exact ⟨by rw [← HR.out, decide_eq_false (TX.out HE.out)]; rfl, by repeat (first | exact Drawn0.refl _ | apply Drawn0.step | exact ⟨_, rfl⟩)⟩
      · obtain rfl : k = n := by omega
        have g1 : decide ((k : Int) < (k : Int)) = false := decide_eq_false (by omega)
        have hT := T1.out
        rw [← HX.out, List.take_length, HX.out, HN.out, List.take_length] at hT
        have HT := Aside0.mk hT
        clear hT T1
        go_wp2
        go_ret
        exact ⟨by rw [← HR.out, decide_eq_true HT.out]; rfl, B1.out⟩
  · have e0 : (((xs.length : Nat) : Int) == ((ys.length : Nat) : Int)) = false := beq_eq_false_iff_ne.2 (by omega)
    rw [decide_eq_false (fun e : xs = ys => hn (by rw [e]))]
    generalize xs.length = n at e0 hn ⊢
    generalize ys.length = m at e0 hn ⊢
    go_enter Tryz.func61, Tryz.ntmps61
    go_wp2
    go_ret
    exact ⟨rfl, Drawn0.refl _⟩
set_option maxHeartbeats 4000000 in
set_option maxRecDepth 400000 in
theorem eq_bools (xs ys : List Bool) (A0 A1 : Option Addr) (c0 c1 : Nat) (w : World) (C0 : Kd.C Kd.bool w A0 xs.length xs) (C1 : Kd.C Kd.bool w A1 ys.length ys) (hl : xs.length ≤ 9223372036854775807) (hl1 : ys.length ≤ 9223372036854775807) :
    Calls Tryz.prog 63 #[.slice A0 xs.length c0, .slice A1 ys.length c1] w fun e w' => e = .returned (.bool (decide (xs = ys))) ∧ Drawn0 w w' := by
  have D0 := Aside0.mk C0
  have D1 := Aside0.mk C1
  clear C0 C1
  by_cases hn : xs.length = ys.length
  · have HN := Aside0.mk hn
    have e0 : (((xs.length : Nat) : Int) == ((xs.length : Nat) : Int)) = true := by simp
    rw [← hn]
    obtain ⟨r, hr⟩ : ∃ r, decide (xs = ys) = r := ⟨_, rfl⟩
    have HR := Aside0.mk hr
    rw [hr]
    clear hr hn hl1
    obtain ⟨n, hn⟩ : ∃ n, xs.length = n := ⟨_, rfl⟩
    have HX := Aside0.mk hn
    rw [hn] at HN e0 hl ⊢
    clear hn
    go_enter Tryz.func63, Tryz.ntmps63
    go_wp2
    go_loopw [5, 13, 14, 15, 16, 17, 18, 19, 20, 21, 22, 23, 24, 25] (fun _ i _ _ _ _ _ _ _ _ _ _ _ _ wr => ∃ k : Nat, k ≤ n ∧ i = .int .i64 k ∧ Aside0 (xs.take k = ys.take k) ∧ Aside0 (Drawn0 w wr)) (fun _ i _ _ _ _ _ _ _ _ _ _ _ _ _ => n - (RowKit.intOf i).toNat)
    case atStart => exact ⟨0, Nat.zero_le _, rfl, ⟨rfl⟩, ⟨Drawn0.refl _⟩⟩
    case round =>
      obtain ⟨k, hk, rfl, T1, B1⟩ := hrel
      by_cases hlt : k < n
      · have g1 : decide ((k : Int) < (n : Int)) = true := decide_eq_true (by omega)
        have hx : k < xs.length := by rw [HX.out]; exact hlt
        have hy : k < ys.length := by rw [← HN.out]; exact hlt
        obtain ⟨a0, ea0, h0⟩ := bool_cell D0.out k hx hx
        obtain ⟨a1, ea1, h1⟩ := bool_cell D1.out k hy hy
        subst ea0
        subst ea1
        obtain ⟨nd, rfl⟩ := B1.out
        have p1 : ((k : Int) < (n : Int)) := by omega
        have TN : Aside0 (xs[k] = ys[k] → xs.take (k + 1) = ys.take (k + 1)) := ⟨fun e => take_eq T1.out hx hy e⟩
        have TX : Aside0 (xs[k] ≠ ys[k] → xs ≠ ys) := ⟨fun h e => h (by subst e; rfl)⟩
        generalize xs[k] = x at h0 TN TX
        generalize ys[k] = y at h1 TN TX
        by_cases hxy : x = y
        · have e1 : (x == y) = true := beq_iff_eq.2 hxy
          have e2 : (x != y) = false := by rw [hxy]; simp
          have e3 : (x = y) = True := eq_true hxy
          have HE := Aside0.mk hxy
          clear hxy hx hy
          go_wp2
          go_quiet (fail)
          go_wp2
          exact ⟨⟨k + 1, by omega, by go_num, ⟨TN.out HE.out⟩, ⟨by repeat (first | exact Drawn0.refl _ | apply Drawn0.step | exact ⟨_, rfl⟩)⟩⟩, by simp [RowKit.intOf]; omega⟩
        · have e1 : (x == y) = false := beq_eq_false_iff_ne.2 hxy
          have e2 : (x != y) = true := bne_iff_ne.2 hxy
          have e3 : (x = y) = False := eq_false hxy
          have HE := Aside0.mk hxy
          clear hxy hx hy
          go_wp2
          go_quiet (fail)
          go_wp2
          go_ret
          exact ⟨by rw [← HR.out, decide_eq_false (TX.out HE.out)]; rfl, by repeat (first | exact Drawn0.refl _ | apply Drawn0.step | exact ⟨_, rfl⟩)⟩
      · obtain rfl : k = n := by omega
        have g1 : decide ((k : Int) < (k : Int)) = false := decide_eq_false (by omega)
        have hT := T1.out
        rw [← HX.out, List.take_length, HX.out, HN.out, List.take_length] at hT
        have HT := Aside0.mk hT
        clear hT T1
        go_wp2
        go_ret
        exact ⟨by rw [← HR.out, decide_eq_true HT.out]; rfl, B1.out⟩
  · have e0 : (((xs.length : Nat) : Int) == ((ys.length : Nat) : Int)) = false := beq_eq_false_iff_ne.2 (by omega)
    rw [decide_eq_false (fun e : xs = ys => hn (by rw [e]))]
    generalize xs.length = n at e0 hn ⊢
    generalize ys.length = m at e0 hn ⊢
    go_enter Tryz.func63, Tryz.ntmps63
    go_wp2
    go_ret
    exact ⟨rfl, Drawn0.refl _⟩
end Go.Proofs.Tok
namespace Go.Proofs.Tok
open Go.RowKit Go.Lib Go.Proofs.YtolfpgccebdlpaaGreatDoorW.PrintWords Go.Proofs.YtolfpgccebdlpaaGreatDoorW.PrintLast Go.Proofs.YtolfpgccebdlpaaGreatDoorW.PrintMore
set_option maxHeartbeats 4000000 in
set_option maxRecDepth 400000 in
theorem same1_any (x y : Smp) (A1 A2 B1 B2 : Option Addr) (c1 c2 d1 d2 : Nat) (w : World) (C1 : Kd.C Kd.string w A1 x.2.1.length x.2.1) (C2 : Kd.C Kd.string w A2 x.2.2.1.length x.2.2.1) (D1 : Kd.C Kd.string w B1 y.2.1.length y.2.1) (D2 : Kd.C Kd.string w B2 y.2.2.1.length y.2.2.1)
    (hl : x.2.1.length ≤ 1000000 ∧ x.2.2.1.length ≤ 1000000 ∧ y.2.1.length ≤ 1000000 ∧ y.2.2.1.length ≤ 1000000) :
    Calls Tryz.prog 60 #[.agg #[.string x.1, .slice A1 x.2.1.length c1, .slice A2 x.2.2.1.length c2, .bool x.2.2.2.1, .bool x.2.2.2.2], .agg #[.string y.1, .slice B1 y.2.1.length d1, .slice B2 y.2.2.1.length d2, .bool y.2.2.2.1, .bool y.2.2.2.2]] w fun e w' => e = .returned (.bool (decide (x = y))) ∧ Below w.heap.size w w' := by
  obtain ⟨t, l1, l2, b3, b4⟩ := x
  obtain ⟨t', l1', l2', b3', b4'⟩ := y
  simp only at C1 C2 D1 D2 hl
  have H1 := Aside0.mk (fun W (hW : Below w.heap.size w W) => eq_strs l1 l1' A1 B1 c1 d1 W (Kd.C_below C1 hW) (Kd.C_below D1 hW) (by omega) (by omega))
  have H2 := Aside0.mk (fun W (hW : Below w.heap.size w W) => eq_strs l2 l2' A2 B2 c2 d2 W (Kd.C_below C2 hW) (Kd.C_below D2 hW) (by omega) (by omega))
  clear C1 C2 D1 D2 hl
  have hu44 := Tryz.underlying80
  have HE : Aside0 (decide ((t, l1, l2, b3, b4) = ((t', l1', l2', b3', b4') : Smp)) = (decide (t = t') && (decide (l1 = l1') && (decide (l2 = l2') && (decide (b3 = b3') && decide (b4 = b4')))))) := ⟨by
    rw [Bool.eq_iff_iff]
    simp⟩
  obtain ⟨r, hr⟩ : ∃ r, decide ((t, l1, l2, b3, b4) = ((t', l1', l2', b3', b4') : Smp)) = r := ⟨_, rfl⟩
  rw [hr] at HE ⊢
  obtain ⟨r1, hr1⟩ : ∃ r1, decide (l1 = l1') = r1 := ⟨_, rfl⟩
  obtain ⟨r2, hr2⟩ : ∃ r2, decide (l2 = l2') = r2 := ⟨_, rfl⟩
  rw [hr1] at H1 HE
  rw [hr2] at H2 HE
  clear hr hr1 hr2
  generalize l1.length = n1 at H1 ⊢
  generalize l2.length = n2 at H2 ⊢
  generalize l1'.length = m1 at H1 ⊢
  generalize l2'.length = m2 at H2 ⊢
  have eb : ∀ b b' : Bool, (b == b') = decide (b = b') := by decide
  have HB4 : Aside0 (decide (b4 = b4') = (b4 == b4')) := ⟨(eb _ _).symm⟩
  by_cases ht : t = t'
  · have e0 : (t.toList == t'.toList) = true := by rw [ht]; simp
    have HT : Aside0 (decide (t = t') = true) := ⟨decide_eq_true ht⟩
    clear ht eb
    cases r1 with
    | true =>
      cases r2 with
      | true =>
        by_cases h3 : b3 = b3'
        · have e3 : (b3 == b3') = true := beq_iff_eq.2 h3
          have HB3 : Aside0 (decide (b3 = b3') = true) := ⟨decide_eq_true h3⟩
          clear h3
          as_aux_lemma =>
          go_enter Tryz.func60, Tryz.ntmps60
          go_wp2_with (first | (go_at_call 61; first | (with_reducible refine (H1.out _ (by repeat (first | exact Below.refl _ _ | apply below_alloc | apply below_drew1 | apply pw_below_drewN))).mono ?_; rintro e w' ⟨rfl, ⟨nd, rfl⟩⟩) | (with_reducible refine (H2.out _ (by repeat (first | exact Below.refl _ _ | apply below_alloc | apply below_drew1 | apply pw_below_drewN))).mono ?_; rintro e w' ⟨rfl, ⟨nd2, rfl⟩⟩)))
          go_ret
          exact ⟨by rw [HE.out, HT.out, HB3.out, HB4.out]; rfl, by repeat (first | exact Below.refl _ _ | apply below_alloc | apply below_drew1 | apply pw_below_drewN)⟩
        · have e3 : (b3 == b3') = false := beq_eq_false_iff_ne.2 h3
          have HB3 : Aside0 (decide (b3 = b3') = false) := ⟨decide_eq_false h3⟩
          clear h3
          as_aux_lemma =>
          go_enter Tryz.func60, Tryz.ntmps60
          go_wp2_with (first | (go_at_call 61; first | (with_reducible refine (H1.out _ (by repeat (first | exact Below.refl _ _ | apply below_alloc | apply below_drew1 | apply pw_below_drewN))).mono ?_; rintro e w' ⟨rfl, ⟨nd, rfl⟩⟩) | (with_reducible refine (H2.out _ (by repeat (first | exact Below.refl _ _ | apply below_alloc | apply below_drew1 | apply pw_below_drewN))).mono ?_; rintro e w' ⟨rfl, ⟨nd2, rfl⟩⟩)))
          go_ret
          exact ⟨by rw [HE.out, HT.out, HB3.out]; rfl, by repeat (first | exact Below.refl _ _ | apply below_alloc | apply below_drew1 | apply pw_below_drewN)⟩
      | false =>
        as_aux_lemma =>
        go_enter Tryz.func60, Tryz.ntmps60
        go_wp2_with (first | (go_at_call 61; first | (with_reducible refine (H1.out _ (by repeat (first | exact Below.refl _ _ | apply below_alloc | apply below_drew1 | apply pw_below_drewN))).mono ?_; rintro e w' ⟨rfl, ⟨nd, rfl⟩⟩) | (with_reducible refine (H2.out _ (by repeat (first | exact Below.refl _ _ | apply below_alloc | apply below_drew1 | apply pw_below_drewN))).mono ?_; rintro e w' ⟨rfl, ⟨nd2, rfl⟩⟩)))
        go_ret
        exact ⟨by rw [HE.out, HT.out]; rfl, by repeat (first | exact Below.refl _ _ | apply below_alloc | apply below_drew1 | apply pw_below_drewN)⟩
    | false =>
      as_aux_lemma =>
      go_enter Tryz.func60, Tryz.ntmps60
      go_wp2_with (first | (go_at_call 61; first | (with_reducible refine (H1.out _ (by repeat (first | exact Below.refl _ _ | apply below_alloc | apply below_drew1 | apply pw_below_drewN))).mono ?_; rintro e w' ⟨rfl, ⟨nd, rfl⟩⟩) | (with_reducible refine (H2.out _ (by repeat (first | exact Below.refl _ _ | apply below_alloc | apply below_drew1 | apply pw_below_drewN))).mono ?_; rintro e w' ⟨rfl, ⟨nd2, rfl⟩⟩)))
      go_ret
      exact ⟨by rw [HE.out, HT.out]; rfl, by repeat (first | exact Below.refl _ _ | apply below_alloc | apply below_drew1 | apply pw_below_drewN)⟩
  · have e0 : (t.toList == t'.toList) = false := beq_eq_false_iff_ne.2 (fun h => ht (by rw [Lib.toList_data, Lib.toList_data] at h; exact Scn.ba_ext h))
    have HT : Aside0 (decide (t = t') = false) := ⟨decide_eq_false ht⟩
    clear ht eb
    as_aux_lemma =>
    go_enter Tryz.func60, Tryz.ntmps60
    go_wp2_with (first | (go_at_call 61; first | (with_reducible refine (H1.out _ (by repeat (first | exact Below.refl _ _ | apply below_alloc | apply below_drew1 | apply pw_below_drewN))).mono ?_; rintro e w' ⟨rfl, ⟨nd, rfl⟩⟩) | (with_reducible refine (H2.out _ (by repeat (first | exact Below.refl _ _ | apply below_alloc | apply below_drew1 | apply pw_below_drewN))).mono ?_; rintro e w' ⟨rfl, ⟨nd2, rfl⟩⟩)))
    go_ret
    exact ⟨by rw [HE.out, HT.out]; rfl, by repeat (first | exact Below.refl _ _ | apply below_alloc | apply below_drew1 | apply pw_below_drewN)⟩
end Go.Proofs.Tok
namespace Go.Proofs.Tok
open Go.RowKit Go.Lib Go.Proofs.YtolfpgccebdlpaaGreatDoorW.PrintWords Go.Proofs.YtolfpgccebdlpaaGreatDoorW.PrintLast Go.Proofs.YtolfpgccebdlpaaGreatDoorW.PrintMore
theorem two_below {w wr w2 : World} {o p : Obj} (h : Below w.heap.size w wr) (hb : Below ((wr.alloc o).alloc p).heap.size ((wr.alloc o).alloc p) w2) : Below w.heap.size w w2 := by
  have hs := h.size
  refine below_then (below_alloc (below_alloc h _) _) ?_ hb
  rw [alloc_size, alloc_size]
  omega
def lenX (x : Smp) : Prop := x.2.1.length ≤ 1000000 ∧ x.2.2.1.length ≤ 1000000
set_option maxHeartbeats 1000000 in
set_option maxRecDepth 400000 in
theorem eq_smps (xs ys : List Smp) (A0 A1 : Option Addr) (c0 c1 : Nat) (w : World) (C0 : Kd.C kSmp w A0 xs.length xs) (C1 : Kd.C kSmp w A1 ys.length ys) (hl : xs.length ≤ 1000000) (hl1 : ys.length ≤ 1000000) (hx : ∀ x ∈ xs, lenX x) (hy : ∀ y ∈ ys, lenX y) :
    Calls Tryz.prog 62 #[.slice A0 xs.length c0, .slice A1 ys.length c1, .func (.func 60) #[] #[]] w fun e w' => e = .returned (.bool (decide (xs = ys))) ∧ Below w.heap.size w w' := by
  have D0 := Aside0.mk C0
  have D1 := Aside0.mk C1
  have L0 := Aside0.mk hx
  have L1 := Aside0.mk hy
  clear C0 C1 hx hy
  have hu44 := Tryz.underlying80
  by_cases hn : xs.length = ys.length
  · have HN := Aside0.mk hn
    have e0 : (((xs.length : Nat) : Int) == ((xs.length : Nat) : Int)) = true := by simp
    rw [← hn]
    obtain ⟨r, hr⟩ : ∃ r, decide (xs = ys) = r := ⟨_, rfl⟩
    have HR := Aside0.mk hr
    rw [hr]
    clear hr hn hl1
    obtain ⟨n, hn⟩ : ∃ n, xs.length = n := ⟨_, rfl⟩
    have HX := Aside0.mk hn
    rw [hn] at HN e0 hl ⊢
    clear hn
    go_enter Tryz.func62, Tryz.ntmps62
    go_wp2
    go_loopw [7, 8, 9, 17, 18, 19, 20, 21, 22, 23, 24, 25, 26, 27, 28, 29, 30, 31] (fun _ _ _ i _ _ _ _ _ _ _ _ _ _ _ _ _ _ wr => ∃ k : Nat, k ≤ n ∧ i = .int .i64 k ∧ Aside0 (xs.take k = ys.take k) ∧ Aside0 (Below w.heap.size w wr)) (fun _ _ _ i _ _ _ _ _ _ _ _ _ _ _ _ _ _ _ => n - (RowKit.intOf i).toNat)
    case atStart => exact ⟨0, Nat.zero_le _, rfl, ⟨rfl⟩, ⟨Below.refl _ _⟩⟩
    case round =>
      obtain ⟨k, hk, rfl, T1, B1⟩ := hrel
      by_cases hlt : k < n
      · have g1 : decide ((k : Int) < (n : Int)) = true := decide_eq_true (by omega)
        have hx : k < xs.length := by rw [HX.out]; exact hlt
        have hy : k < ys.length := by rw [← HN.out]; exact hlt
        obtain ⟨a0, U1, u1, U2, u2, ea0, h0, h1, h2, h3, h4, q1, F1, q2, F2⟩ := at_Smp D0.out k hx hx
        obtain ⟨a1, V1, v1, V2, v2, ea1, m0, m1, m2, m3, m4, q3, F3, q4, F4⟩ := at_Smp D1.out k hy hy
        subst ea0
        subst ea1
        have hB := fun (p : Addr) (v : Value) (h : w.cell? p = some v) => (B1.out.cell (World.block_lt_of_cell? _ _ h)).trans h
        have x0 := hB _ _ h0
        have x1 := hB _ _ h1
        have x2 := hB _ _ h2
        have x3 := hB _ _ h3
        have x4 := hB _ _ h4
        have y0 := hB _ _ m0
        have y1 := hB _ _ m1
        have y2 := hB _ _ m2
        have y3 := hB _ _ m3
        have y4 := hB _ _ m4
        have HS := Aside0.mk (fun W (hW : Below w.heap.size w W) => same1_any xs[k] ys[k] U1 U2 V1 V2 u1 u2 v1 v2 W (Kd.C_below F1 hW) (Kd.C_below F2 hW) (Kd.C_below F3 hW) (Kd.C_below F4 hW) ⟨(L0.out _ (List.getElem_mem hx)).1, (L0.out _ (List.getElem_mem hx)).2, (L1.out _ (List.getElem_mem hy)).1, (L1.out _ (List.getElem_mem hy)).2⟩)
        have TN : Aside0 (xs[k] = ys[k] → xs.take (k + 1) = ys.take (k + 1)) := ⟨fun e => take_eq T1.out hx hy e⟩
        have TX : Aside0 (xs[k] ≠ ys[k] → xs ≠ ys) := ⟨fun h e => h (by subst e; rfl)⟩
        clear h0 h1 h2 h3 h4 m0 m1 m2 m3 m4 q1 q2 q3 q4 F1 F2 F3 F4 hB
        generalize xs[k] = x at x0 x1 x2 x3 x4 HS TN TX
        generalize ys[k] = y at y0 y1 y2 y3 y4 HS TN TX
        clear hx hy
        have al := fun (p : Addr) (v : Value) (h : wr.cell? p = some v) => (World.cell?_alloc_lt wr (Obj.cells #[.string x.1, .slice U1 x.2.1.length u1, .slice U2 x.2.2.1.length u2, .bool x.2.2.2.1, .bool x.2.2.2.2] 80) p (World.block_lt_of_cell? _ _ h)).trans h
        have z0 := al _ _ y0
        have z1 := al _ _ y1
        have z2 := al _ _ y2
        have z3 := al _ _ y3
        have z4 := al _ _ y4
        clear al
        obtain ⟨b, hb⟩ : ∃ b, decide (x = y) = b := ⟨_, rfl⟩
        have HE := Aside0.mk hb
        rw [hb] at HS
        clear hb
        cases b with
        | true =>
          go_wp2_with (first | (go_at_call 60; with_reducible refine (HS.out _ (by repeat (first | exact B1.out | apply below_alloc))).mono ?_; rintro e w' ⟨rfl, hB⟩; have HBB := Aside0.mk (two_below B1.out hB); clear hB))
          exact ⟨⟨k + 1, by omega, by go_num, ⟨TN.out (of_decide_eq_true HE.out)⟩, HBB⟩, by simp [RowKit.intOf]; omega⟩
        | false =>
          go_wp2_with (first | (go_at_call 60; with_reducible refine (HS.out _ (by repeat (first | exact B1.out | apply below_alloc))).mono ?_; rintro e w' ⟨rfl, hB⟩; have HBB := Aside0.mk (two_below B1.out hB); clear hB))
          go_ret
          exact ⟨by rw [← HR.out, decide_eq_false (TX.out (of_decide_eq_false HE.out))]; rfl, HBB.out⟩
      · obtain rfl : k = n := by omega
        have g1 : decide ((k : Int) < (k : Int)) = false := decide_eq_false (by omega)
        have hT := T1.out
        rw [← HX.out, List.take_length, HX.out, HN.out, List.take_length] at hT
        have HT := Aside0.mk hT
        clear hT T1
        go_wp2
        go_ret
        exact ⟨by rw [← HR.out, decide_eq_true HT.out]; rfl, B1.out⟩
  · have e0 : (((xs.length : Nat) : Int) == ((ys.length : Nat) : Int)) = false := beq_eq_false_iff_ne.2 (by omega)
    rw [decide_eq_false (fun e : xs = ys => hn (by rw [e]))]
    generalize xs.length = n at e0 hn ⊢
    generalize ys.length = m at e0 hn ⊢
    go_enter Tryz.func62, Tryz.ntmps62
    go_wp2
    go_ret
    exact ⟨rfl, Below.refl _ _⟩
set_option maxHeartbeats 1000000 in
set_option maxRecDepth 400000 in
theorem Same_any (xs ys : List Smp) (bs cs : List Bool) (A0 A1 E0 E1 : Option Addr) (c0 c1 d0 d1 : Nat) (w : World) (C0 : Kd.C kSmp w A0 xs.length xs) (C1 : Kd.C kSmp w A1 ys.length ys) (D0 : Kd.C Kd.bool w E0 bs.length bs) (D1 : Kd.C Kd.bool w E1 cs.length cs) (hl : xs.length ≤ 1000000) (hl1 : ys.length ≤ 1000000) (hb : bs.length ≤ 1000000) (hc : cs.length ≤ 1000000) (hx : ∀ x ∈ xs, lenX x) (hy : ∀ y ∈ ys, lenX y) :
    Calls Tryz.prog 23 #[.agg #[.slice A0 xs.length c0, .slice E0 bs.length d0], .agg #[.slice A1 ys.length c1, .slice E1 cs.length d1]] w fun e w' => e = .returned (.bool (decide (xs = ys) && decide (bs = cs))) ∧ Below w.heap.size w w' := by
  have HS := Aside0.mk (fun W (hW : Below w.heap.size w W) => eq_smps xs ys A0 A1 c0 c1 W (Kd.C_below C0 hW) (Kd.C_below C1 hW) hl hl1 hx hy)
  have HB := Aside0.mk (fun W (hW : Below w.heap.size w W) => eq_bools bs cs E0 E1 d0 d1 W (Kd.C_below D0 hW) (Kd.C_below D1 hW) (by omega) (by omega))
  clear C0 C1 D0 D1 hx hy
  have hu25 := Tryz.underlying25
  obtain ⟨r1, hr1⟩ : ∃ r1, decide (xs = ys) = r1 := ⟨_, rfl⟩
  obtain ⟨r2, hr2⟩ : ∃ r2, decide (bs = cs) = r2 := ⟨_, rfl⟩
  rw [hr1] at HS ⊢
  rw [hr2] at HB ⊢
  clear hr1 hr2 hl hl1 hb hc
  generalize xs.length = n1 at HS ⊢
  generalize ys.length = n2 at HS ⊢
  generalize bs.length = m1 at HB ⊢
  generalize cs.length = m2 at HB ⊢
  have k0 := fun (j : Nat) (v : Value) (W : World) (h : (#[.slice A0 n1 c0, .slice E0 m1 d0] : Array Value)[j]? = some v) (hb : Below ((w.alloc (.cells #[.slice A0 n1 c0, .slice E0 m1 d0] 25)).alloc (.cells #[.slice A1 n2 c1, .slice E1 m2 d1] 25)).heap.size ((w.alloc (.cells #[.slice A0 n1 c0, .slice E0 m1 d0] 25)).alloc (.cells #[.slice A1 n2 c1, .slice E1 m2 d1] 25)) W) => (hb.cell (p := ⟨w.heap.size, j, none⟩) (by rw [alloc_size, alloc_size]; show w.heap.size < _; omega)).trans ((World.cell?_alloc2_first _ _ _ _).trans h)
  have k1 := fun (j : Nat) (v : Value) (W : World) (h : (#[.slice A1 n2 c1, .slice E1 m2 d1] : Array Value)[j]? = some v) (hb : Below ((w.alloc (.cells #[.slice A0 n1 c0, .slice E0 m1 d0] 25)).alloc (.cells #[.slice A1 n2 c1, .slice E1 m2 d1] 25)).heap.size ((w.alloc (.cells #[.slice A0 n1 c0, .slice E0 m1 d0] 25)).alloc (.cells #[.slice A1 n2 c1, .slice E1 m2 d1] 25)) W) => (hb.cell (p := ⟨w.heap.size + 1, j, none⟩) (by rw [alloc_size, alloc_size]; show w.heap.size + 1 < _; omega)).trans ((World.cell?_alloc2_new _ _ _ _).trans h)
  have K0 := Aside0.mk k0
  have K1 := Aside0.mk k1
  clear k0 k1
  cases r1 with
  | false =>
    go_enter Tryz.func23, Tryz.ntmps23
    go_wp2_with (first | (go_at_call 62; with_reducible refine (HS.out _ (by repeat (first | exact Below.refl _ _ | apply below_alloc | apply below_drew1 | apply pw_below_drewN))).mono ?_; rintro e w' ⟨rfl, hB⟩; have HBB := Aside0.mk (two_below (Below.refl _ _) hB); clear hB))
    go_ret
    exact ⟨rfl, HBB.out⟩
  | true =>
    go_enter Tryz.func23, Tryz.ntmps23
    go_wp2_with (first | (go_at_call 62; with_reducible refine (HS.out _ (by repeat (first | exact Below.refl _ _ | apply below_alloc | apply below_drew1 | apply pw_below_drewN))).mono ?_; rintro e w' ⟨rfl, hB⟩; have q0 := K0.out 1 (.slice E0 m1 d0) _ rfl hB; have q1 := K1.out 1 (.slice E1 m2 d1) _ rfl hB; have HBB := Aside0.mk (two_below (Below.refl _ _) hB); clear hB) | (go_at_call 63; with_reducible refine (HB.out _ (by repeat (first | exact HBB.out | apply below_drew1 | apply pw_below_drewN))).mono ?_; rintro e w2 ⟨rfl, ⟨nd, rfl⟩⟩))
    go_ret
    exact ⟨rfl, by repeat (first | exact HBB.out | apply below_drew1 | apply pw_below_drewN)⟩
end Go.Proofs.Tok
set_option linter.unusedVariables false
set_option linter.unusedSimpArgs false
namespace Go.Proofs.Sht
open Go.RowKit Go.Lib Go.Proofs.YtolfpgccebdlpaaGreatDoorW.PrintWords Go.Proofs.YtolfpgccebdlpaaGreatDoorW.PrintLast Go.Proofs.YtolfpgccebdlpaaGreatDoorW.PrintMore Go.Proofs.Tok
/-- what texts weigh -/
def addS (l : List ByteArray) : Nat := (l.map fun s => 1 + s.size).sum
def wP (p : Smp) : Nat := 1 + p.1.size + addS p.2.1 + addS p.2.2.1
def wS (l : List Smp) : Nat := (l.map wP).sum
def smT (l : List ByteArray) : Prop := ∀ s ∈ l, s.size ≤ 140737488355328
def smP (p : Smp) : Prop := p.1.size ≤ 140737488355328 ∧ (p.2.1.length ≤ 140737488355328 ∧ smT p.2.1) ∧ p.2.2.1.length ≤ 140737488355328 ∧ smT p.2.2.1
theorem sum_take {α : Type} (f : α → Nat) {l : List α} {k : Nat} (h : k < l.length) : ((l.take (k + 1)).map f).sum = ((l.take k).map f).sum + f l[k] := by
  rw [List.take_succ_eq_append_getElem h, List.map_append, List.sum_append]
  simp
set_option maxHeartbeats 8000000 in
set_option maxRecDepth 400000 in
theorem LargeS (xs : List Smp) (bs : List Bool) (A1 : Option Addr) (c1 : Nat) (A2 : Option Addr) (c2 : Nat) (w : World) (C1 : Kd.C kSmp w A1 xs.length xs) (hl : xs.length ≤ 140737488355328) (hb : bs.length ≤ 140737488355328) (hs : ∀ p ∈ xs, smP p) :
    Calls Tryz.prog 10 #[.agg #[.slice A1 xs.length c1, .slice A2 bs.length c2]] w fun e w' => ∃ b, e = .returned (.bool b) ∧ (b = false → wS xs ≤ 500 ∧ bs.length ≤ 100) ∧ Below w.heap.size w w' := by
  have D0 := Aside0.mk C1
  have HS := Aside0.mk hs
  clear C1 hs
  have hu := Tryz.underlying30
  have hu2 := Tryz.underlying79
  go_enter Tryz.func10, Tryz.ntmps10
  go_wp2
  go_loopw [3, 4, 5, 6, 7, 8, 9, 10, 11, 12, 13, 14, 15, 16, 17, 18, 19, 20, 21, 22, 23, 24, 25, 26, 27, 28, 29, 30, 31, 32, 33, 34, 35, 36, 37, 38, 39, 40, 41, 42, 43, 44, 45, 46, 47, 48, 49, 50, 51, 52, 53, 54, 55, 56, 57, 58, 59, 60, 61, 62, 63, 64, 65, 66, 67, 68, 69, 70, 71, 72, 73, 74, 75, 76, 77, 78, 79, 80, 81, 82, 83] (fun n i _ _ _ _ _ _ _ _ _ _ _ _ _ _ _ _ _ _ _ _ _ _ _ _ _ _ _ _ _ _ _ _ _ _ _ _ _ _ _ _ _ _ _ _ _ _ _ _ _ _ _ _ _ _ _ _ _ _ _ _ _ _ _ _ _ _ _ _ _ _ _ _ _ _ _ _ _ _ _ wr => ∃ k m : Nat, k ≤ xs.length ∧ i = .int .i64 k ∧ n = .int .i64 m ∧ m ≤ 281474976710656 ∧ Aside0 (m ≤ 500 → m = wS (xs.take k)) ∧ Aside0 (Drawn0 (w.alloc (.cells #[.slice A1 xs.length c1, .slice A2 bs.length c2] 30)) wr)) (fun _ i _ _ _ _ _ _ _ _ _ _ _ _ _ _ _ _ _ _ _ _ _ _ _ _ _ _ _ _ _ _ _ _ _ _ _ _ _ _ _ _ _ _ _ _ _ _ _ _ _ _ _ _ _ _ _ _ _ _ _ _ _ _ _ _ _ _ _ _ _ _ _ _ _ _ _ _ _ _ _ _ => xs.length - (RowKit.intOf i).toNat)
  case atStart => exact ⟨0, 0, Nat.zero_le _, rfl, rfl, by omega, ⟨fun _ => rfl⟩, ⟨Drawn0.refl _⟩⟩
  case round =>
    obtain ⟨k, m, hk, rfl, rfl, hm, N1, B1⟩ := hrel
    obtain ⟨nd, rfl⟩ := B1.out
    by_cases hc : k < xs.length ∧ m ≤ 500
    · have hlt := hc.1
      have h5 := hc.2
      have g1 : decide ((k : Int) < (xs.length : Int)) = true := decide_eq_true (by omega)
      have g2 : decide ((m : Int) ≤ 500) = true := decide_eq_true (by omega)
      have N2 := Aside0.mk (N1.out hc.2)
      obtain ⟨ad, E1, e1, E2, e2, ea, h0, h1, h2, h3, h4, q1, K1, q2, K2⟩ := at_Smp D0.out k hlt hlt
      subst ea
      have KB : Aside0 (∀ (p : Addr) (v : Value), w.cell? p = some v → (w.alloc (.cells #[.slice (some ad) xs.length c1, .slice A2 bs.length c2] 30)).cell? p = some v) := ⟨fun p v h => ((below_alloc (Below.refl w.heap.size w) _).cell (World.block_lt_of_cell? _ _ h)).trans h⟩
      have F := HS.out _ (List.getElem_mem hlt)
      have T1 : Aside0 (wS (xs.take (k + 1)) = wS (xs.take k) + wP xs[k]) := ⟨sum_take wP hlt⟩
      have T2 : Aside0 (wP xs[k] = 1 + xs[k].1.size + addS xs[k].2.1 + addS xs[k].2.2.1) := ⟨rfl⟩
      generalize xs[k] = x at h0 h1 h2 K1 K2 F T1 T2
      obtain ⟨tg, ids, cls, x3, x4⟩ := x
      dsimp only at h0 h1 h2 K1 K2 T2
      obtain ⟨F0, ⟨F1, F2⟩, F3, F4⟩ := F
      dsimp only at F0 F1 F2 F3 F4
      have I1 := Aside0.mk K1
      have I2 := Aside0.mk K2
      have S1 := Aside0.mk F2
      have S2 := Aside0.mk F4
      have y0 := KB.out _ _ h0
      have y1 := KB.out _ _ h1
      have y2 := KB.out _ _ h2
      clear K1 K2 F2 F4 h0 h1 h2 h3 h4 q1 q2 N1 hc
      as_aux_lemma =>
        go_wp2
        go_loopw [3, 5, 28, 29, 30, 31, 32, 33, 34, 35, 36, 37, 38, 39, 40, 41, 42, 43, 44, 45, 46, 47, 48, 49, 50, 51, 52, 53, 54, 55] (fun n jv _ _ _ _ _ _ _ _ _ _ _ _ _ _ _ _ _ _ _ _ _ _ _ _ _ _ _ _ wr => ∃ j m : Nat, j ≤ ids.length ∧ jv = .int .i64 j ∧ n = .int .i64 m ∧ m ≤ 281474976710656 ∧ Aside0 (m ≤ 500 → m = wS (xs.take k) + 1 + tg.size + addS (ids.take j)) ∧ Aside0 (Drawn0 (w.alloc (.cells #[.slice (some ad) xs.length c1, .slice A2 bs.length c2] 30)) wr)) (fun _ jv _ _ _ _ _ _ _ _ _ _ _ _ _ _ _ _ _ _ _ _ _ _ _ _ _ _ _ _ _ => ids.length - (RowKit.intOf jv).toNat)
        case atStart => exact ⟨0, m + 1 + tg.size, Nat.zero_le _, rfl, by go_num, by omega, ⟨fun _ => by have := N2.out; rw [this]; simp [addS]⟩, ⟨by repeat (first | exact Drawn0.refl _ | apply Drawn0.step | exact ⟨_, rfl⟩)⟩⟩
        case round =>
          obtain ⟨j, m, hj, rfl, rfl, hm, N3, B3⟩ := hrel
          obtain ⟨nd, rfl⟩ := B3.out
          by_cases hc : j < ids.length ∧ m ≤ 500
          · have hjl := hc.1
            have h5 := hc.2
            have g3 : decide ((j : Int) < (ids.length : Int)) = true := decide_eq_true (by omega)
            have g4 : decide ((m : Int) ≤ 500) = true := decide_eq_true (by omega)
            have N4 := Aside0.mk (N3.out hc.2)
            obtain ⟨ax, ex, z0⟩ := str_cell I1.out j hjl hjl
            subst ex
            have T3 : Aside0 (addS (ids.take (j + 1)) = addS (ids.take j) + (1 + ids[j].size)) := ⟨sum_take (fun s : ByteArray => 1 + s.size) hjl⟩
            have zs := S1.out _ (List.getElem_mem hjl)
            generalize ids[j] = t at z0 T3 zs
            have y0 := KB.out _ _ z0
            clear z0
            go_wp2
            exact ⟨⟨j + 1, m + 1 + t.size, by omega, by go_num, by go_num, by omega, ⟨fun h => by rw [T3.out]; have := N4.out; omega⟩, ⟨by repeat (first | exact Drawn0.refl _ | apply Drawn0.step | exact ⟨_, rfl⟩)⟩⟩, by simp [RowKit.intOf]; omega⟩
          · have hex : (decide ((j : Int) < (ids.length : Int)) = false ∧ decide (j < ids.length) = false) ∨ (decide ((j : Int) < (ids.length : Int)) = true ∧ decide (j < ids.length) = true ∧ decide ((m : Int) ≤ 500) = false ∧ decide (m ≤ 500) = false) := by
              by_cases h : j < ids.length
              · exact .inr ⟨decide_eq_true (by omega), decide_eq_true (by omega), decide_eq_false (by omega), decide_eq_false (by omega)⟩
              · exact .inl ⟨decide_eq_false (by omega), decide_eq_false (by omega)⟩
            have NF : Aside0 (m ≤ 500 → m = wS (xs.take k) + 1 + tg.size + addS ids) := ⟨fun h => by
              have h1 := N3.out h
              rwa [show j = ids.length by omega, List.take_length] at h1⟩
            clear N3 hc
            rcases hex with ⟨g7, g7n⟩ | ⟨g7, g7n, g8, g8n⟩
            all_goals
              as_aux_lemma =>
                go_wp2
                have NF0 := NF
                clear NF
                go_loopw [3, 6, 56, 57, 58, 59, 60, 61, 62, 63, 64, 65, 66, 67, 68, 69, 70, 71, 72, 73, 74, 75, 76, 77, 78, 79, 80, 81, 82, 83] (fun n jv _ _ _ _ _ _ _ _ _ _ _ _ _ _ _ _ _ _ _ _ _ _ _ _ _ _ _ _ wr => ∃ j m : Nat, j ≤ cls.length ∧ jv = .int .i64 j ∧ n = .int .i64 m ∧ m ≤ 281474976710656 ∧ Aside0 (m ≤ 500 → m = wS (xs.take k) + 1 + tg.size + addS ids + addS (cls.take j)) ∧ Aside0 (Drawn0 (w.alloc (.cells #[.slice (some ad) xs.length c1, .slice A2 bs.length c2] 30)) wr)) (fun _ jv _ _ _ _ _ _ _ _ _ _ _ _ _ _ _ _ _ _ _ _ _ _ _ _ _ _ _ _ _ => cls.length - (RowKit.intOf jv).toNat)
                case atStart => exact ⟨0, m, Nat.zero_le _, rfl, rfl, hm, ⟨fun h => by rw [NF0.out h]; rfl⟩, ⟨by repeat (first | exact Drawn0.refl _ | apply Drawn0.step | exact ⟨_, rfl⟩)⟩⟩
                case round =>
                  obtain ⟨j, m, hj, rfl, rfl, hm, N3, B3⟩ := hrel
                  obtain ⟨nd, rfl⟩ := B3.out
                  by_cases hc : j < cls.length ∧ m ≤ 500
                  · have hjl := hc.1
                    have h5 := hc.2
                    have g3 : decide ((j : Int) < (cls.length : Int)) = true := decide_eq_true (by omega)
                    have g4 : decide ((m : Int) ≤ 500) = true := decide_eq_true (by omega)
                    have N4 := Aside0.mk (N3.out hc.2)
                    obtain ⟨ax, ex, z0⟩ := str_cell I2.out j hjl hjl
                    subst ex
                    have T3 : Aside0 (addS (cls.take (j + 1)) = addS (cls.take j) + (1 + cls[j].size)) := ⟨sum_take (fun s : ByteArray => 1 + s.size) hjl⟩
                    have zs := S2.out _ (List.getElem_mem hjl)
                    generalize cls[j] = t at z0 T3 zs
                    have y0 := KB.out _ _ z0
                    clear z0
                    go_wp2
                    exact ⟨⟨j + 1, m + 1 + t.size, by omega, by go_num, by go_num, by omega, ⟨fun h => by rw [T3.out]; have := N4.out; omega⟩, ⟨by repeat (first | exact Drawn0.refl _ | apply Drawn0.step | exact ⟨_, rfl⟩)⟩⟩, by simp [RowKit.intOf]; omega⟩
                  · have hex : (decide ((j : Int) < (cls.length : Int)) = false ∧ decide (j < cls.length) = false) ∨ (decide ((j : Int) < (cls.length : Int)) = true ∧ decide (j < cls.length) = true ∧ decide ((m : Int) ≤ 500) = false ∧ decide (m ≤ 500) = false) := by
                      by_cases h : j < cls.length
                      · exact .inr ⟨decide_eq_true (by omega), decide_eq_true (by omega), decide_eq_false (by omega), decide_eq_false (by omega)⟩
                      · exact .inl ⟨decide_eq_false (by omega), decide_eq_false (by omega)⟩
                    have NF : Aside0 (m ≤ 500 → m = wS (xs.take k) + 1 + tg.size + addS ids + addS cls) := ⟨fun h => by
                      have h1 := N3.out h
                      rwa [show j = cls.length by omega, List.take_length] at h1⟩
                    clear N3 hc
                    rcases hex with ⟨g5, g5n⟩ | ⟨g5, g5n, g6, g6n⟩
                    all_goals
                      as_aux_lemma =>
                        go_wp2
                        exact ⟨⟨k + 1, m, by omega, by go_num, rfl, hm, ⟨fun h => by rw [T1.out, T2.out]; have := NF.out h; have := N2.out; omega⟩, ⟨by repeat (first | exact Drawn0.refl _ | apply Drawn0.step | exact ⟨_, rfl⟩)⟩⟩, by simp [RowKit.intOf]; omega⟩
    · have hex : (decide ((k : Int) < (xs.length : Int)) = false ∧ decide (k < xs.length) = false) ∨ (decide ((k : Int) < (xs.length : Int)) = true ∧ decide (k < xs.length) = true ∧ decide ((m : Int) ≤ 500) = false ∧ decide (m ≤ 500) = false) := by
        by_cases h : k < xs.length
        · exact .inr ⟨decide_eq_true (by omega), decide_eq_true (by omega), decide_eq_false (by omega), decide_eq_false (by omega)⟩
        · exact .inl ⟨decide_eq_false (by omega), decide_eq_false (by omega)⟩
      have NF : Aside0 (m ≤ 500 → wS xs ≤ 500) := ⟨fun h => by
        have h1 := N1.out h
        rw [show k = xs.length by omega, List.take_length] at h1
        omega⟩
      have BE : Aside0 (Below w.heap.size w ((w.alloc (.cells #[.slice A1 xs.length c1, .slice A2 bs.length c2] 30)).drewN nd)) := ⟨pw_below_drewN (below_alloc (Below.refl _ _) _) nd⟩
      clear N1 hc
      rcases hex with ⟨g1, n1⟩ | ⟨g1, n1, g2, n2⟩
      all_goals
        by_cases h5 : m ≤ 500
        · have g5 : decide ((500 : Int) < (m : Int)) = false := decide_eq_false (by omega)
          by_cases h1 : bs.length ≤ 100
          · have g6 : decide ((100 : Int) < (bs.length : Int)) = false := decide_eq_false (by omega)
            as_aux_lemma =>
              go_wp2
              go_ret
              exact ⟨_, rfl, fun _ => ⟨NF.out h5, h1⟩, BE.out⟩
          · have g6 : decide ((100 : Int) < (bs.length : Int)) = true := decide_eq_true (by omega)
            as_aux_lemma =>
              go_wp2
              go_ret
              exact ⟨_, rfl, (fun h => by cases h), BE.out⟩
        · have g5 : decide ((500 : Int) < (m : Int)) = true := decide_eq_true (by omega)
          as_aux_lemma =>
            go_wp2
            go_ret
            exact ⟨_, rfl, (fun h => by cases h), BE.out⟩
/-- a selector that is not large -/
def okSel (s : Sel) : Prop := wS s.1 ≤ 500 ∧ s.2.length ≤ 100
def wR (l : List Rl) : Nat := (l.map fun r => 1 + r.2.length + r.1.length).sum
/-- rules that are not large -/
def sizR (l : List Rl) : Prop := l.length ≤ 100 ∧ wR l ≤ 1000 ∧ ∀ r ∈ l, ∀ s ∈ r.1, okSel s
def smS (s : Sel) : Prop := s.1.length ≤ 140737488355328 ∧ s.2.length ≤ 140737488355328 ∧ ∀ p ∈ s.1, smP p
def smR (r : Rl) : Prop := r.1.length ≤ 140737488355328 ∧ r.2.length ≤ 140737488355328 ∧ ∀ s ∈ r.1, smS s
theorem all_next {α : Type} {P : α → Prop} {l : List α} {k : Nat} (h : k < l.length) (h1 : ∀ x ∈ l.take k, P x) (h2 : P l[k]) : ∀ x ∈ l.take (k + 1), P x := by
  rw [List.take_succ_eq_append_getElem h]
  intro x hx
  rcases List.mem_append.1 hx with hx | hx
  · exact h1 x hx
  · rw [List.mem_singleton] at hx
    rw [hx]
    exact h2
set_option maxHeartbeats 8000000 in
set_option maxRecDepth 400000 in
theorem LargeC (xs : List Rl) (A : Option Addr) (c : Nat) (w : World) (C : Kd.C kRl w A xs.length xs) (hl : xs.length ≤ 201) (hs : ∀ r ∈ xs, smR r) :
    Calls Tryz.prog 25 #[.slice A xs.length c] w fun e w' => ∃ b, e = .returned (.bool b) ∧ (b = false → sizR xs) ∧ Below w.heap.size w w' := by
  have D0 := Aside0.mk C
  have HS := Aside0.mk hs
  clear C hs
  have hu := Tryz.underlying113
  have hu2 := Tryz.underlying30
  go_enter Tryz.func25, Tryz.ntmps25
  go_wp2
  go_loopw [3, 4, 5, 6, 7, 8, 9, 10, 11, 12, 13, 14, 15, 16, 17, 18, 19, 20, 21, 22, 23, 24, 25, 26, 27, 28, 29, 30, 31, 32, 33, 34, 35, 36, 37, 38, 39, 40, 41, 42, 43, 44, 45, 46, 47, 48, 49] (fun n i _ _ _ _ _ _ _ _ _ _ _ _ _ _ _ _ _ _ _ _ _ _ _ _ _ _ _ _ _ _ _ _ _ _ _ _ _ _ _ _ _ _ _ _ _ wr => ∃ k m : Nat, k ≤ xs.length ∧ i = .int .i64 k ∧ n = .int .i64 m ∧ m ≤ 281474976710656 ∧ Aside0 (m ≤ 1000 → m = wR (xs.take k) ∧ ∀ r ∈ xs.take k, ∀ s ∈ r.1, okSel s) ∧ Aside0 (Below w.heap.size w wr)) (fun _ i _ _ _ _ _ _ _ _ _ _ _ _ _ _ _ _ _ _ _ _ _ _ _ _ _ _ _ _ _ _ _ _ _ _ _ _ _ _ _ _ _ _ _ _ _ _ => xs.length - (RowKit.intOf i).toNat)
  case atStart => exact ⟨0, 0, Nat.zero_le _, rfl, rfl, by omega, ⟨fun _ => ⟨rfl, fun r hr => by simp at hr⟩⟩, ⟨Below.refl _ _⟩⟩
  case round =>
    obtain ⟨k, m, hk, rfl, rfl, hm, N1, B1⟩ := hrel
    by_cases hc : k < xs.length ∧ m ≤ 1000
    · have hlt := hc.1
      have h5 := hc.2
      have g1 : decide ((k : Int) < (xs.length : Int)) = true := decide_eq_true (by omega)
      have g2 : decide ((m : Int) ≤ 1000) = true := decide_eq_true (by omega)
      have N2 := Aside0.mk (N1.out hc.2)
      obtain ⟨ad, E1, e1, E2, e2, ea, h0, h1, q1, K1, q2, K2⟩ := at_two D0.out k hlt hlt
      subst ea
      have F := HS.out _ (List.getElem_mem hlt)
      have T1 : Aside0 (wR (xs.take (k + 1)) = wR (xs.take k) + (1 + xs[k].2.length + xs[k].1.length)) := ⟨sum_take (fun r : Rl => 1 + r.2.length + r.1.length) hlt⟩
      have T2 : Aside0 ((∀ s ∈ xs[k].1, okSel s) → ∀ r ∈ xs.take (k + 1), ∀ s ∈ r.1, okSel s) := ⟨fun h => all_next hlt N2.out.2 h⟩
      generalize xs[k] = x at h0 h1 K1 K2 F T1 T2
      obtain ⟨ss, ds⟩ := x
      dsimp only at h0 h1 K1 T1 T2
      obtain ⟨F0, F1, F2⟩ := F
      dsimp only at F0 F1 F2
      have I1 := Aside0.mk K1
      have S1 := Aside0.mk F2
      have X0 : Aside0 (∀ W, Below w.heap.size w W → W.cell? (ad.add (k * 2)) = some (.slice E1 ss.length e1)) := ⟨fun W h => (h.cell (World.block_lt_of_cell? _ _ h0)).trans h0⟩
      have x0 := X0.out _ B1.out
      have x1 := (B1.out.cell (World.block_lt_of_cell? _ _ h1)).trans h1
      clear K1 K2 F2 h0 h1 q1 q2 N1 hc
      as_aux_lemma =>
        go_wp2
        go_loopw [3, 5, 25, 26, 27, 28, 29, 30, 31, 32, 33, 34, 35, 36, 37, 38, 39, 40, 41, 42, 43, 44, 45, 46, 47, 48, 49] (fun n jv _ _ _ _ _ _ _ _ _ _ _ _ _ _ _ _ _ _ _ _ _ _ _ _ _ wz => ∃ j m : Nat, j ≤ ss.length ∧ jv = .int .i64 j ∧ n = .int .i64 m ∧ m ≤ 281474976710656 ∧ Aside0 (m ≤ 1000 → m = wR (xs.take k) + 1 + ds.length + j ∧ ∀ s ∈ ss.take j, okSel s) ∧ Aside0 (Below w.heap.size w wz)) (fun _ jv _ _ _ _ _ _ _ _ _ _ _ _ _ _ _ _ _ _ _ _ _ _ _ _ _ _ => ss.length - (RowKit.intOf jv).toNat)
        case atStart => exact ⟨0, m + 1 + ds.length, Nat.zero_le _, rfl, by go_num, by omega, ⟨fun _ => ⟨by have := N2.out.1; omega, fun s hs => by simp at hs⟩⟩, B1⟩
        case round =>
          obtain ⟨j, m, hj, rfl, rfl, hm, N3, B3⟩ := hrel
          have x0 := X0.out _ B3.out
          by_cases hc : j < ss.length ∧ m ≤ 1000
          · have hjl := hc.1
            have h5 := hc.2
            have g3 : decide ((j : Int) < (ss.length : Int)) = true := decide_eq_true (by omega)
            have g4 : decide ((m : Int) ≤ 1000) = true := decide_eq_true (by omega)
            have N4 := Aside0.mk (N3.out hc.2)
            obtain ⟨ax, P1, p1, P2, p2, ex, z0, z1, q3, K3, q4, K4⟩ := at_two I1.out j hjl hjl
            subst ex
            have y0 := (B3.out.cell (World.block_lt_of_cell? _ _ z0)).trans z0
            have y1 := (B3.out.cell (World.block_lt_of_cell? _ _ z1)).trans z1
            have F := S1.out _ (List.getElem_mem hjl)
            have HL := Aside0.mk (LargeS ss[j].1 ss[j].2 P1 p1 P2 p2 _ (Kd.C_below K3 B3.out) F.1 F.2.1 F.2.2)
            have T3 : Aside0 (okSel ss[j] → ∀ s ∈ ss.take (j + 1), okSel s) := ⟨fun h => all_next hjl N4.out.2 h⟩
            have T4 : Aside0 (wS ss[j].1 ≤ 500 ∧ ss[j].2.length ≤ 100 → okSel ss[j]) := ⟨fun h => h⟩
            generalize ss[j] = t at y0 y1 HL T3 T4
            clear z0 z1 q3 K3 q4 K4 F N3 hc
            go_wp2_with (first | (go_at_call 10; refine HL.out.mono ?_; rintro e w' ⟨b, rfl, hb, hB⟩; have HX := Aside0.mk hb; have HY := Aside0.mk (below_then B3.out B3.out.size hB); clear hb hB))
            · go_ret
              exact ⟨_, rfl, (fun h => by cases h), HY.out⟩
            · rename_i hb0
              exact ⟨⟨j + 1, m + 1, by omega, by go_num, by go_num, by omega, ⟨fun _ => ⟨by have := N4.out.1; omega, T3.out (T4.out (HX.out hb0))⟩⟩, HY⟩, by simp [RowKit.intOf]; omega⟩
          · have hex : (decide ((j : Int) < (ss.length : Int)) = false ∧ decide (j < ss.length) = false) ∨ (decide ((j : Int) < (ss.length : Int)) = true ∧ decide (j < ss.length) = true ∧ decide ((m : Int) ≤ 1000) = false ∧ decide (m ≤ 1000) = false) := by
              by_cases h : j < ss.length
              · exact .inr ⟨decide_eq_true (by omega), decide_eq_true (by omega), decide_eq_false (by omega), decide_eq_false (by omega)⟩
              · exact .inl ⟨decide_eq_false (by omega), decide_eq_false (by omega)⟩
            have NF : Aside0 (m ≤ 1000 → m = wR (xs.take k) + (1 + ds.length + ss.length) ∧ ∀ s ∈ ss, okSel s) := ⟨fun h => by
              have h1 := N3.out h
              rw [show j = ss.length by omega, List.take_length] at h1
              exact ⟨by omega, h1.2⟩⟩
            clear N3 hc
            rcases hex with ⟨g7, g7n⟩ | ⟨g7, g7n, g8, g8n⟩
            all_goals
              as_aux_lemma =>
                go_wp2
                exact ⟨⟨k + 1, m, by omega, by go_num, rfl, hm, ⟨fun h => ⟨by rw [T1.out]; exact (NF.out h).1, T2.out (NF.out h).2⟩⟩, B3⟩, by simp [RowKit.intOf]; omega⟩
    · have hex : (decide ((k : Int) < (xs.length : Int)) = false ∧ decide (k < xs.length) = false) ∨ (decide ((k : Int) < (xs.length : Int)) = true ∧ decide (k < xs.length) = true ∧ decide ((m : Int) ≤ 1000) = false ∧ decide (m ≤ 1000) = false) := by
        by_cases h : k < xs.length
        · exact .inr ⟨decide_eq_true (by omega), decide_eq_true (by omega), decide_eq_false (by omega), decide_eq_false (by omega)⟩
        · exact .inl ⟨decide_eq_false (by omega), decide_eq_false (by omega)⟩
      have NF : Aside0 (m ≤ 1000 → xs.length ≤ 100 → sizR xs) := ⟨fun h h0 => by
        have h1 := N1.out h
        rw [show k = xs.length by omega, List.take_length] at h1
        exact ⟨h0, by omega, h1.2⟩⟩
      clear N1 hc
      rcases hex with ⟨g1, n1⟩ | ⟨g1, n1, g2, n2⟩
      all_goals
        by_cases h5 : m ≤ 1000
        · have g5 : decide ((1000 : Int) < (m : Int)) = false := decide_eq_false (by omega)
          by_cases h1 : xs.length ≤ 100
          · have g6 : decide ((100 : Int) < (xs.length : Int)) = false := decide_eq_false (by omega)
            as_aux_lemma =>
              go_wp2
              go_ret
              exact ⟨_, rfl, fun _ => NF.out h5 h1, B1.out⟩
          · have g6 : decide ((100 : Int) < (xs.length : Int)) = true := decide_eq_true (by omega)
            as_aux_lemma =>
              go_wp2
              go_ret
              exact ⟨_, rfl, (fun h => by cases h), B1.out⟩
        · have g5 : decide ((1000 : Int) < (m : Int)) = true := decide_eq_true (by omega)
          as_aux_lemma =>
            go_wp2
            go_ret
            exact ⟨_, rfl, (fun h => by cases h), B1.out⟩
end Go.Proofs.Sht
