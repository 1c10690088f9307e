/- value.May of the properties 1 to 26: its contract, proved by walking its text; no condition beside those that the theorem states. -/
import Derived.Test.YtmfhhlgjbjbnhaaGreatDoorVmA
import Derived.Deep.RegionWith
set_option linter.unusedVariables false
set_option linter.unusedSimpArgs false
namespace Go.Proofs.Val
open Go.RowKit Go.Lib Go.Proofs Go.Proofs.YtmfhhlgjbjbnhaaGreatDoorW.PrintWords
def rec0 (p : Nat) : SortRec := recOf p 0 0 0 0
theorem rec0_eq (p b1 b2 b3 b4 : Nat) (h1 : 1 ≤ p) (h2 : p ≤ 26) : (recOf p b1 b2 b3 b4).auto = (rec0 p).auto ∧ (recOf p b1 b2 b3 b4).length = (rec0 p).length ∧ (recOf p b1 b2 b3 b4).part = (rec0 p).part ∧ (recOf p b1 b2 b3 b4).below = (rec0 p).below ∧ (recOf p b1 b2 b3 b4).color = (rec0 p).color ∧ (recOf p b1 b2 b3 b4).number = (rec0 p).number ∧ (recOf p b1 b2 b3 b4).wn = (rec0 p).wn := by
  rcases cases26 h1 h2 with rfl | rfl | rfl | rfl | rfl | rfl | rfl | rfl | rfl | rfl | rfl | rfl | rfl | rfl | rfl | rfl | rfl | rfl | rfl | rfl | rfl | rfl | rfl | rfl | rfl | rfl <;> exact ⟨rfl, rfl, rfl, rfl, rfl, rfl, rfl⟩
def lowV (p : Nat) : Int := if (rec0 p).below = true then -63999999999 else 0
def mayV (p : Nat) (k n : Int) : Bool :=
  if k = 1 then (rec0 p).auto && decide (n = 0)
  else if k = 2 then (rec0 p).length && (decide (lowV p ≤ n) && decide (n ≤ 63999999999))
  else if k = 3 then (rec0 p).part && (decide (0 ≤ n) && decide (n ≤ 63999999999))
  else if k = 4 then (rec0 p).color && (decide (0 ≤ n) && decide (n ≤ 16777215))
  else if k = 5 then decide (0 ≤ n) && decide (n < ((rec0 p).wn : Int))
  else if k = 6 then (rec0 p).number && (decide (lowV p ≤ n) && decide (n ≤ 63999999999))
  else false
set_option maxHeartbeats 4000000 in
set_option maxRecDepth 100000 in
theorem mayC (p : Nat) (h1 : 1 ≤ p) (h2 : p ≤ 26) (k n : Int) (w : World) :
    Calls Tryz.prog 11 #[.int .i64 (p : Int), .agg #[.int .i64 k, .int .i64 n]] w fun e w' => e = .returned (.bool (mayV p k n)) ∧ Below w.heap.size w w' := by
  have hO := fun w => ofC p h1 h2 w
  have hE := fun b1 b2 b3 b4 => rec0_eq p b1 b2 b3 b4 h1 h2
  obtain ⟨r0, hr0⟩ : ∃ r0, rec0 p = r0 := ⟨_, rfl⟩
  go_enter Tryz.func11, Tryz.ntmps11
  go_upto_region 3 with (first | (go_at_call 19; refine (hO _).mono ?_; rintro e w1 ⟨b1, b2, b3, b4, rfl, hS, hB⟩; obtain ⟨ea, el, ep, eb, ec, en, ew⟩ := hE b1 b2 b3 b4; generalize recOf p b1 b2 b3 b4 = r at ea el ep eb ec en ew ⊢))
  obtain ⟨W2, hW2⟩ : ∃ W2, w1.alloc (.cells #[.string r.name, .bool r0.auto, .bool r0.length, .bool r0.part, .bool r0.below, .bool r0.color, .bool r0.number, .slice r.wa r0.wn r0.wn, .int .i64 r.k, .int .i64 r.n] 36) = W2 := ⟨_, rfl⟩
  rw [hW2]
  have hBw : Below w.heap.size w w1 := below_then (below_alloc (Below.refl _ _) _) (by rw [alloc_size]; omega) hB
  have HB2 : Below w.heap.size w W2 := by rw [← hW2]; exact below_alloc hBw _
  have hsz : w.heap.size < w1.heap.size := by have := hB.size; rw [alloc_size] at this; omega
  have hrow : W2.heap[w1.heap.size]? = some (.cells #[.string r.name, .bool r0.auto, .bool r0.length, .bool r0.part, .bool r0.below, .bool r0.color, .bool r0.number, .slice r.wa r0.wn r0.wn, .int .i64 r.k, .int .i64 r.n] 36 (0, 0)) := by rw [← hW2]; exact heap_alloc_new _ _
  have hvow : W2.heap[w.heap.size]? = some (.cells #[.int .i64 k, .int .i64 n] 23 (0, 0)) := by
    rw [← hW2]
    have a1 : w1.heap[w.heap.size]? = some (.cells #[.int .i64 k, .int .i64 n] 23 (0, 0)) := (hB.block w.heap.size (by rw [alloc_size]; omega)).trans (heap_alloc_new _ _)
    exact (heap_alloc_old _ _ hsz).trans a1
  obtain ⟨g, hg⟩ : ∃ g, w1.heap.size = g := ⟨_, rfl⟩
  obtain ⟨v, hv⟩ : ∃ v, w.heap.size = v := ⟨_, rfl⟩
  have HBA := Aside0.mk HB2
  rw [hg] at hrow ⊢
  rw [hv] at hvow ⊢
  have HR := Aside0.mk hrow
  have HV := Aside0.mk hvow
  clear hrow hvow hBw HB2 hsz hW2 hS hB hO hE
  have HM : Aside0 (mayV p k n = mayV p k n) := ⟨rfl⟩
  obtain ⟨nm, au, le, pa, be, co, nu, wa, wn, kk, nn⟩ := r0
  have HK : ∀ W, Below W2.heap.size W2 W → (∀ (j : Nat) (u : Value), (#[.string r.name, .bool au, .bool le, .bool pa, .bool be, .bool co, .bool nu, .slice r.wa wn wn, .int .i64 r.k, .int .i64 r.n] : Array Value)[j]? = some u → W.cell? ⟨g, j, none⟩ = some u) ∧ (∀ (j : Nat) (u : Value), (#[.int .i64 k, .int .i64 n] : Array Value)[j]? = some u → W.cell? ⟨v, j, none⟩ = some u) ∧ Aside0 (Below w.heap.size w W) := by
    intro W hW
    refine ⟨fun j u hj => ?_, fun j u hj => ?_, ⟨below_then HBA.out HBA.out.size hW⟩⟩
    · exact (blk_cell ((hW.block g (blk_lt HR.out)).trans HR.out) j).trans hj
    · exact (blk_cell ((hW.block v (blk_lt HV.out)).trans HV.out) j).trans hj
  have HKA := Aside0.mk HK
  clear HK HR HV
  obtain ⟨kt, kv, kb⟩ := HKA.out W2 (Below.refl _ _)
  have t1 := kt 1 _ rfl
  have t2 := kt 2 _ rfl
  have t3 := kt 3 _ rfl
  have t4 := kt 4 _ rfl
  have t5 := kt 5 _ rfl
  have t6 := kt 6 _ rfl
  have t7 := kt 7 _ rfl
  have v0 := kv 0 _ rfl
  have v1 := kv 1 _ rfl
  clear kt kv
  cases be with
  | false =>
    go_upto_region 5 with fail
    by_cases k1 : k = 1
    · subst k1
      cases au with
      | false =>
        go_wp2
        go_ret
        exact ⟨(by first | (simp [mayV, lowV, hr0]; done) | (simp [mayV, lowV, hr0]; omega)), by first | exact kb.out | (rw [← hv]; exact kb.out) | exact pw_below_drewN (kb.out) _ | (rw [← hv]; exact pw_below_drewN (kb.out) _)⟩
      | true =>
        by_cases hn : n = 0
        · subst hn
          go_wp2
          go_ret
          exact ⟨(by first | (simp [mayV, lowV, hr0]; done) | (simp [mayV, lowV, hr0]; omega)), by first | exact kb.out | (rw [← hv]; exact kb.out) | exact pw_below_drewN (kb.out) _ | (rw [← hv]; exact pw_below_drewN (kb.out) _)⟩
        · have e0 : (n == 0) = false := by simp [hn]
          go_wp2
          go_ret
          exact ⟨(by first | (simp [mayV, lowV, hr0, hn]; done) | (simp [mayV, lowV, hr0, hn]; omega)), by first | exact kb.out | (rw [← hv]; exact kb.out) | exact pw_below_drewN (kb.out) _ | (rw [← hv]; exact pw_below_drewN (kb.out) _)⟩
    have f1 : (k == 1) = false := by simp [k1]
    by_cases k2 : k = 2
    · subst k2
      cases le with
      | false =>
        go_wp2; go_quiet (fail); go_wp2
        go_ret
        exact ⟨(by first | (simp [mayV, lowV, hr0]; done) | (simp [mayV, lowV, hr0]; omega)), by first | exact kb.out | (rw [← hv]; exact kb.out) | exact pw_below_drewN (kb.out) _ | (rw [← hv]; exact pw_below_drewN (kb.out) _)⟩
      | true =>
        by_cases ha : (0 : Int) ≤ n
        · have ga : decide ((0 : Int) ≤ n) = true := decide_eq_true ha
          go_wp2; go_region_with (first | (go_at_call 29; refine (most_any _).mono ?_; rintro e W4 ⟨rfl, hB4⟩; have v4 := (HKA.out W4 (below_then (below_drew1 (Below.refl _ _)) (Nat.le_refl _) hB4)).2.1 1 _ rfl))
          all_goals (go_wp2; go_ret; exact ⟨(show _ = Ending.returned (Value.bool (decide (n ≤ 63999999999))) from rfl).trans (by first | (simp [mayV, lowV, hr0, ha]; done) | (simp [mayV, lowV, hr0, ha]; omega)), by first | exact below_then (below_drew1 kb.out) (below_drew1 kb.out).size hB4 | (rw [← hv]; exact below_then (below_drew1 kb.out) (below_drew1 kb.out).size hB4) | exact pw_below_drewN (below_then (below_drew1 kb.out) (below_drew1 kb.out).size hB4) _ | (rw [← hv]; exact pw_below_drewN (below_then (below_drew1 kb.out) (below_drew1 kb.out).size hB4) _)⟩)
        · have ga : decide ((0 : Int) ≤ n) = false := decide_eq_false ha
          go_wp2; go_quiet (fail); go_wp2
          go_ret
          exact ⟨(by first | (simp [mayV, lowV, hr0, ha]; done) | (simp [mayV, lowV, hr0, ha]; omega)), by first | exact kb.out | (rw [← hv]; exact kb.out) | exact pw_below_drewN (kb.out) _ | (rw [← hv]; exact pw_below_drewN (kb.out) _)⟩
    have f2 : (k == 2) = false := by simp [k2]
    by_cases k3 : k = 3
    · subst k3
      cases pa with
      | false =>
        go_wp2; go_quiet (fail); go_wp2
        go_ret
        exact ⟨(by first | (simp [mayV, lowV, hr0]; done) | (simp [mayV, lowV, hr0]; omega)), by first | exact kb.out | (rw [← hv]; exact kb.out) | exact pw_below_drewN (kb.out) _ | (rw [← hv]; exact pw_below_drewN (kb.out) _)⟩
      | true =>
        by_cases ha : (0 : Int) ≤ n
        · have ga : decide ((0 : Int) ≤ n) = true := decide_eq_true ha
          go_wp2; go_region_with (first | (go_at_call 29; refine (most_any _).mono ?_; rintro e W4 ⟨rfl, hB4⟩; have v4 := (HKA.out W4 (below_then (below_drew1 (Below.refl _ _)) (Nat.le_refl _) hB4)).2.1 1 _ rfl))
          all_goals (go_wp2; go_ret; exact ⟨(show _ = Ending.returned (Value.bool (decide (n ≤ 63999999999))) from rfl).trans (by first | (simp [mayV, lowV, hr0, ha]; done) | (simp [mayV, lowV, hr0, ha]; omega)), by first | exact below_then (below_drew1 kb.out) (below_drew1 kb.out).size hB4 | (rw [← hv]; exact below_then (below_drew1 kb.out) (below_drew1 kb.out).size hB4) | exact pw_below_drewN (below_then (below_drew1 kb.out) (below_drew1 kb.out).size hB4) _ | (rw [← hv]; exact pw_below_drewN (below_then (below_drew1 kb.out) (below_drew1 kb.out).size hB4) _)⟩)
        · have ga : decide ((0 : Int) ≤ n) = false := decide_eq_false ha
          go_wp2; go_quiet (fail); go_wp2
          go_ret
          exact ⟨(by first | (simp [mayV, lowV, hr0, ha]; done) | (simp [mayV, lowV, hr0, ha]; omega)), by first | exact kb.out | (rw [← hv]; exact kb.out) | exact pw_below_drewN (kb.out) _ | (rw [← hv]; exact pw_below_drewN (kb.out) _)⟩
    have f3 : (k == 3) = false := by simp [k3]
    by_cases k4 : k = 4
    · subst k4
      cases co with
      | false =>
        go_wp2
        go_ret
        exact ⟨(by first | (simp [mayV, lowV, hr0]; done) | (simp [mayV, lowV, hr0]; omega)), by first | exact kb.out | (rw [← hv]; exact kb.out) | exact pw_below_drewN (kb.out) _ | (rw [← hv]; exact pw_below_drewN (kb.out) _)⟩
      | true =>
        by_cases ha : (0 : Int) ≤ n
        · have ga : decide ((0 : Int) ≤ n) = true := decide_eq_true ha
          go_wp2
          go_ret
          exact ⟨(by first | (simp [mayV, lowV, hr0, ha]; done) | (simp [mayV, lowV, hr0, ha]; omega)), by first | exact kb.out | (rw [← hv]; exact kb.out) | exact pw_below_drewN (kb.out) _ | (rw [← hv]; exact pw_below_drewN (kb.out) _)⟩
        · have ga : decide ((0 : Int) ≤ n) = false := decide_eq_false ha
          go_wp2
          go_ret
          exact ⟨(by first | (simp [mayV, lowV, hr0, ha]; done) | (simp [mayV, lowV, hr0, ha]; omega)), by first | exact kb.out | (rw [← hv]; exact kb.out) | exact pw_below_drewN (kb.out) _ | (rw [← hv]; exact pw_below_drewN (kb.out) _)⟩
    have f4 : (k == 4) = false := by simp [k4]
    by_cases k5 : k = 5
    · subst k5
      by_cases ha : (0 : Int) ≤ n
      · have ga : decide ((0 : Int) ≤ n) = true := decide_eq_true ha
        by_cases hc : n < (wn : Int)
        · have gc : decide (n < (wn : Int)) = true := decide_eq_true hc
          go_wp2
          go_ret
          exact ⟨(by first | (simp [mayV, lowV, hr0, ha, hc]; done) | (simp [mayV, lowV, hr0, ha, hc]; omega)), by first | exact kb.out | (rw [← hv]; exact kb.out) | exact pw_below_drewN (kb.out) _ | (rw [← hv]; exact pw_below_drewN (kb.out) _)⟩
        · have gc : decide (n < (wn : Int)) = false := decide_eq_false hc
          go_wp2
          go_ret
          exact ⟨(by first | (simp [mayV, lowV, hr0, ha, hc]; done) | (simp [mayV, lowV, hr0, ha, hc]; omega)), by first | exact kb.out | (rw [← hv]; exact kb.out) | exact pw_below_drewN (kb.out) _ | (rw [← hv]; exact pw_below_drewN (kb.out) _)⟩
      · have ga : decide ((0 : Int) ≤ n) = false := decide_eq_false ha
        go_wp2
        go_ret
        exact ⟨(by first | (simp [mayV, lowV, hr0, ha]; done) | (simp [mayV, lowV, hr0, ha]; omega)), by first | exact kb.out | (rw [← hv]; exact kb.out) | exact pw_below_drewN (kb.out) _ | (rw [← hv]; exact pw_below_drewN (kb.out) _)⟩
    have f5 : (k == 5) = false := by simp [k5]
    by_cases k6 : k = 6
    · subst k6
      cases nu with
      | false =>
        go_wp2; go_quiet (fail); go_wp2
        go_ret
        exact ⟨(by first | (simp [mayV, lowV, hr0]; done) | (simp [mayV, lowV, hr0]; omega)), by first | exact kb.out | (rw [← hv]; exact kb.out) | exact pw_below_drewN (kb.out) _ | (rw [← hv]; exact pw_below_drewN (kb.out) _)⟩
      | true =>
        by_cases ha : (0 : Int) ≤ n
        · have ga : decide ((0 : Int) ≤ n) = true := decide_eq_true ha
          go_wp2; go_region_with (first | (go_at_call 29; refine (most_any _).mono ?_; rintro e W4 ⟨rfl, hB4⟩; have v4 := (HKA.out W4 (below_then (below_drew1 (Below.refl _ _)) (Nat.le_refl _) hB4)).2.1 1 _ rfl))
          all_goals (go_wp2; go_ret; exact ⟨(show _ = Ending.returned (Value.bool (decide (n ≤ 63999999999))) from rfl).trans (by first | (simp [mayV, lowV, hr0, ha]; done) | (simp [mayV, lowV, hr0, ha]; omega)), by first | exact below_then (below_drew1 kb.out) (below_drew1 kb.out).size hB4 | (rw [← hv]; exact below_then (below_drew1 kb.out) (below_drew1 kb.out).size hB4) | exact pw_below_drewN (below_then (below_drew1 kb.out) (below_drew1 kb.out).size hB4) _ | (rw [← hv]; exact pw_below_drewN (below_then (below_drew1 kb.out) (below_drew1 kb.out).size hB4) _)⟩)
        · have ga : decide ((0 : Int) ≤ n) = false := decide_eq_false ha
          go_wp2; go_quiet (fail); go_wp2
          go_ret
          exact ⟨(by first | (simp [mayV, lowV, hr0, ha]; done) | (simp [mayV, lowV, hr0, ha]; omega)), by first | exact kb.out | (rw [← hv]; exact kb.out) | exact pw_below_drewN (kb.out) _ | (rw [← hv]; exact pw_below_drewN (kb.out) _)⟩
    have f6 : (k == 6) = false := by simp [k6]
    go_wp2
    go_ret
    exact ⟨(by first | (simp [mayV, lowV, hr0, k1, k2, k3, k4, k5, k6]; done) | (simp [mayV, lowV, hr0, k1, k2, k3, k4, k5, k6]; omega)), by first | exact kb.out | (rw [← hv]; exact kb.out) | exact pw_below_drewN (kb.out) _ | (rw [← hv]; exact pw_below_drewN (kb.out) _)⟩
  | true =>
    go_upto_region 5 with (first | (go_at_call 29; refine (most_any _).mono ?_; rintro e W3 ⟨rfl, hB3⟩))
    clear t1 t2 t3 t4 t5 t6 t7 v0 v1 kb
    obtain ⟨kt, kv, kb⟩ := HKA.out W3 hB3
    have t1 := kt 1 _ rfl
    have t2 := kt 2 _ rfl
    have t3 := kt 3 _ rfl
    have t4 := kt 4 _ rfl
    have t5 := kt 5 _ rfl
    have t6 := kt 6 _ rfl
    have t7 := kt 7 _ rfl
    have v0 := kv 0 _ rfl
    have v1 := kv 1 _ rfl
    clear kt kv
    by_cases k1 : k = 1
    · subst k1
      cases au with
      | false =>
        go_wp2
        go_ret
        exact ⟨(by first | (simp [mayV, lowV, hr0]; done) | (simp [mayV, lowV, hr0]; omega)), by first | exact kb.out | (rw [← hv]; exact kb.out) | exact pw_below_drewN (kb.out) _ | (rw [← hv]; exact pw_below_drewN (kb.out) _)⟩
      | true =>
        by_cases hn : n = 0
        · subst hn
          go_wp2
          go_ret
          exact ⟨(by first | (simp [mayV, lowV, hr0]; done) | (simp [mayV, lowV, hr0]; omega)), by first | exact kb.out | (rw [← hv]; exact kb.out) | exact pw_below_drewN (kb.out) _ | (rw [← hv]; exact pw_below_drewN (kb.out) _)⟩
        · have e0 : (n == 0) = false := by simp [hn]
          go_wp2
          go_ret
          exact ⟨(by first | (simp [mayV, lowV, hr0, hn]; done) | (simp [mayV, lowV, hr0, hn]; omega)), by first | exact kb.out | (rw [← hv]; exact kb.out) | exact pw_below_drewN (kb.out) _ | (rw [← hv]; exact pw_below_drewN (kb.out) _)⟩
    have f1 : (k == 1) = false := by simp [k1]
    by_cases k2 : k = 2
    · subst k2
      cases le with
      | false =>
        go_wp2; go_quiet (fail); go_wp2
        go_ret
        exact ⟨(by first | (simp [mayV, lowV, hr0]; done) | (simp [mayV, lowV, hr0]; omega)), by first | exact kb.out | (rw [← hv]; exact kb.out) | exact pw_below_drewN (kb.out) _ | (rw [← hv]; exact pw_below_drewN (kb.out) _)⟩
      | true =>
        by_cases ha : (-63999999999 : Int) ≤ n
        · have ga : decide ((-63999999999 : Int) ≤ n) = true := decide_eq_true ha
          go_wp2; go_region_with (first | (go_at_call 29; refine (most_any _).mono ?_; rintro e W4 ⟨rfl, hB4⟩; have v4 := (HKA.out W4 (below_then (below_drew1 hB3) (below_drew1 hB3).size hB4)).2.1 1 _ rfl))
          all_goals (go_wp2; go_ret; exact ⟨(show _ = Ending.returned (Value.bool (decide (n ≤ 63999999999))) from rfl).trans (by first | (simp [mayV, lowV, hr0, ha]; done) | (simp [mayV, lowV, hr0, ha]; omega)), by first | exact below_then (below_drew1 kb.out) (below_drew1 kb.out).size hB4 | (rw [← hv]; exact below_then (below_drew1 kb.out) (below_drew1 kb.out).size hB4) | exact pw_below_drewN (below_then (below_drew1 kb.out) (below_drew1 kb.out).size hB4) _ | (rw [← hv]; exact pw_below_drewN (below_then (below_drew1 kb.out) (below_drew1 kb.out).size hB4) _)⟩)
        · have ga : decide ((-63999999999 : Int) ≤ n) = false := decide_eq_false ha
          go_wp2; go_quiet (fail); go_wp2
          go_ret
          exact ⟨(by first | (simp [mayV, lowV, hr0, ha]; done) | (simp [mayV, lowV, hr0, ha]; omega)), by first | exact kb.out | (rw [← hv]; exact kb.out) | exact pw_below_drewN (kb.out) _ | (rw [← hv]; exact pw_below_drewN (kb.out) _)⟩
    have f2 : (k == 2) = false := by simp [k2]
    by_cases k3 : k = 3
    · subst k3
      cases pa with
      | false =>
        go_wp2; go_quiet (fail); go_wp2
        go_ret
        exact ⟨(by first | (simp [mayV, lowV, hr0]; done) | (simp [mayV, lowV, hr0]; omega)), by first | exact kb.out | (rw [← hv]; exact kb.out) | exact pw_below_drewN (kb.out) _ | (rw [← hv]; exact pw_below_drewN (kb.out) _)⟩
      | true =>
        by_cases ha : (0 : Int) ≤ n
        · have ga : decide ((0 : Int) ≤ n) = true := decide_eq_true ha
          go_wp2; go_region_with (first | (go_at_call 29; refine (most_any _).mono ?_; rintro e W4 ⟨rfl, hB4⟩; have v4 := (HKA.out W4 (below_then (below_drew1 hB3) (below_drew1 hB3).size hB4)).2.1 1 _ rfl))
          all_goals (go_wp2; go_ret; exact ⟨(show _ = Ending.returned (Value.bool (decide (n ≤ 63999999999))) from rfl).trans (by first | (simp [mayV, lowV, hr0, ha]; done) | (simp [mayV, lowV, hr0, ha]; omega)), by first | exact below_then (below_drew1 kb.out) (below_drew1 kb.out).size hB4 | (rw [← hv]; exact below_then (below_drew1 kb.out) (below_drew1 kb.out).size hB4) | exact pw_below_drewN (below_then (below_drew1 kb.out) (below_drew1 kb.out).size hB4) _ | (rw [← hv]; exact pw_below_drewN (below_then (below_drew1 kb.out) (below_drew1 kb.out).size hB4) _)⟩)
        · have ga : decide ((0 : Int) ≤ n) = false := decide_eq_false ha
          go_wp2; go_quiet (fail); go_wp2
          go_ret
          exact ⟨(by first | (simp [mayV, lowV, hr0, ha]; done) | (simp [mayV, lowV, hr0, ha]; omega)), by first | exact kb.out | (rw [← hv]; exact kb.out) | exact pw_below_drewN (kb.out) _ | (rw [← hv]; exact pw_below_drewN (kb.out) _)⟩
    have f3 : (k == 3) = false := by simp [k3]
    by_cases k4 : k = 4
    · subst k4
      cases co with
      | false =>
        go_wp2
        go_ret
        exact ⟨(by first | (simp [mayV, lowV, hr0]; done) | (simp [mayV, lowV, hr0]; omega)), by first | exact kb.out | (rw [← hv]; exact kb.out) | exact pw_below_drewN (kb.out) _ | (rw [← hv]; exact pw_below_drewN (kb.out) _)⟩
      | true =>
        by_cases ha : (0 : Int) ≤ n
        · have ga : decide ((0 : Int) ≤ n) = true := decide_eq_true ha
          go_wp2
          go_ret
          exact ⟨(by first | (simp [mayV, lowV, hr0, ha]; done) | (simp [mayV, lowV, hr0, ha]; omega)), by first | exact kb.out | (rw [← hv]; exact kb.out) | exact pw_below_drewN (kb.out) _ | (rw [← hv]; exact pw_below_drewN (kb.out) _)⟩
        · have ga : decide ((0 : Int) ≤ n) = false := decide_eq_false ha
          go_wp2
          go_ret
          exact ⟨(by first | (simp [mayV, lowV, hr0, ha]; done) | (simp [mayV, lowV, hr0, ha]; omega)), by first | exact kb.out | (rw [← hv]; exact kb.out) | exact pw_below_drewN (kb.out) _ | (rw [← hv]; exact pw_below_drewN (kb.out) _)⟩
    have f4 : (k == 4) = false := by simp [k4]
    by_cases k5 : k = 5
    · subst k5
      by_cases ha : (0 : Int) ≤ n
      · have ga : decide ((0 : Int) ≤ n) = true := decide_eq_true ha
        by_cases hc : n < (wn : Int)
        · have gc : decide (n < (wn : Int)) = true := decide_eq_true hc
          go_wp2
          go_ret
          exact ⟨(by first | (simp [mayV, lowV, hr0, ha, hc]; done) | (simp [mayV, lowV, hr0, ha, hc]; omega)), by first | exact kb.out | (rw [← hv]; exact kb.out) | exact pw_below_drewN (kb.out) _ | (rw [← hv]; exact pw_below_drewN (kb.out) _)⟩
        · have gc : decide (n < (wn : Int)) = false := decide_eq_false hc
          go_wp2
          go_ret
          exact ⟨(by first | (simp [mayV, lowV, hr0, ha, hc]; done) | (simp [mayV, lowV, hr0, ha, hc]; omega)), by first | exact kb.out | (rw [← hv]; exact kb.out) | exact pw_below_drewN (kb.out) _ | (rw [← hv]; exact pw_below_drewN (kb.out) _)⟩
      · have ga : decide ((0 : Int) ≤ n) = false := decide_eq_false ha
        go_wp2
        go_ret
        exact ⟨(by first | (simp [mayV, lowV, hr0, ha]; done) | (simp [mayV, lowV, hr0, ha]; omega)), by first | exact kb.out | (rw [← hv]; exact kb.out) | exact pw_below_drewN (kb.out) _ | (rw [← hv]; exact pw_below_drewN (kb.out) _)⟩
    have f5 : (k == 5) = false := by simp [k5]
    by_cases k6 : k = 6
    · subst k6
      cases nu with
      | false =>
        go_wp2; go_quiet (fail); go_wp2
        go_ret
        exact ⟨(by first | (simp [mayV, lowV, hr0]; done) | (simp [mayV, lowV, hr0]; omega)), by first | exact kb.out | (rw [← hv]; exact kb.out) | exact pw_below_drewN (kb.out) _ | (rw [← hv]; exact pw_below_drewN (kb.out) _)⟩
      | true =>
        by_cases ha : (-63999999999 : Int) ≤ n
        · have ga : decide ((-63999999999 : Int) ≤ n) = true := decide_eq_true ha
          go_wp2; go_region_with (first | (go_at_call 29; refine (most_any _).mono ?_; rintro e W4 ⟨rfl, hB4⟩; have v4 := (HKA.out W4 (below_then (below_drew1 hB3) (below_drew1 hB3).size hB4)).2.1 1 _ rfl))
          all_goals (go_wp2; go_ret; exact ⟨(show _ = Ending.returned (Value.bool (decide (n ≤ 63999999999))) from rfl).trans (by first | (simp [mayV, lowV, hr0, ha]; done) | (simp [mayV, lowV, hr0, ha]; omega)), by first | exact below_then (below_drew1 kb.out) (below_drew1 kb.out).size hB4 | (rw [← hv]; exact below_then (below_drew1 kb.out) (below_drew1 kb.out).size hB4) | exact pw_below_drewN (below_then (below_drew1 kb.out) (below_drew1 kb.out).size hB4) _ | (rw [← hv]; exact pw_below_drewN (below_then (below_drew1 kb.out) (below_drew1 kb.out).size hB4) _)⟩)
        · have ga : decide ((-63999999999 : Int) ≤ n) = false := decide_eq_false ha
          go_wp2; go_quiet (fail); go_wp2
          go_ret
          exact ⟨(by first | (simp [mayV, lowV, hr0, ha]; done) | (simp [mayV, lowV, hr0, ha]; omega)), by first | exact kb.out | (rw [← hv]; exact kb.out) | exact pw_below_drewN (kb.out) _ | (rw [← hv]; exact pw_below_drewN (kb.out) _)⟩
    have f6 : (k == 6) = false := by simp [k6]
    go_wp2
    go_ret
    exact ⟨(by first | (simp [mayV, lowV, hr0, k1, k2, k3, k4, k5, k6]; done) | (simp [mayV, lowV, hr0, k1, k2, k3, k4, k5, k6]; omega)), by first | exact kb.out | (rw [← hv]; exact kb.out) | exact pw_below_drewN (kb.out) _ | (rw [← hv]; exact pw_below_drewN (kb.out) _)⟩
end Go.Proofs.Val
