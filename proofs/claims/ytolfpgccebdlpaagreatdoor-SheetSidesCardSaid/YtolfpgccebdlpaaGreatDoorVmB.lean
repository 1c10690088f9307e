/- value.May of the properties 1 to 26: its contract, proved by walking its text; no condition beside those that the theorem states. -/
import Derived.Test.YtolfpgccebdlpaaGreatDoorSrtB
import Derived.Deep.RegionWith
set_option linter.unusedVariables false
set_option linter.unusedSimpArgs false
namespace Go.Proofs.Val
open Go.RowKit Go.Lib Go.Proofs Go.Proofs.YtolfpgccebdlpaaGreatDoorW.PrintWords
def rec0 (p : Nat) : SortRec := recOf p 0 0 0 0
theorem rec0_eq (p b1 b2 b3 b4 : Nat) (h1 : 1 ≤ p) (h2 : p ≤ 26) : (recOf p b1 b2 b3 b4).auto = (rec0 p).auto ∧ (recOf p b1 b2 b3 b4).length = (rec0 p).length ∧ (recOf p b1 b2 b3 b4).part = (rec0 p).part ∧ (recOf p b1 b2 b3 b4).below = (rec0 p).below ∧ (recOf p b1 b2 b3 b4).color = (rec0 p).color ∧ (recOf p b1 b2 b3 b4).number = (rec0 p).number ∧ (recOf p b1 b2 b3 b4).wn = (rec0 p).wn := by
  rcases cases26 h1 h2 with rfl | rfl | rfl | rfl | rfl | rfl | rfl | rfl | rfl | rfl | rfl | rfl | rfl | rfl | rfl | rfl | rfl | rfl | rfl | rfl | rfl | rfl | rfl | rfl | rfl | rfl <;> exact ⟨rfl, rfl, rfl, rfl, rfl, rfl, rfl⟩
def lowV (p : Nat) : Int := if (rec0 p).below = true then -63999999999 else 0
def mayV (p : Nat) (k n : Int) : Bool :=
  if k = 1 then (rec0 p).auto && decide (n = 0)
  else if k = 2 then (rec0 p).length && (decide (lowV p ≤ n) && decide (n ≤ 63999999999))
  else if k = 3 then (rec0 p).part && (decide (0 ≤ n) && decide (n ≤ 63999999999))
  else if k = 4 then (rec0 p).color && (decide (0 ≤ n) && decide (n ≤ 16777215))
  else if k = 5 then decide (0 ≤ n) && decide (n < ((rec0 p).wn : Int))
  else if k = 6 then (rec0 p).number && (decide (lowV p ≤ n) && decide (n ≤ 63999999999))
  else false
set_option maxHeartbeats 4000000 in
set_option maxRecDepth 100000 in
theorem mayC (p : Nat) (h1 : 1 ≤ p) (h2 : p ≤ 26) (k n : Int) (w : World) :
    Calls Tryz.prog 74 #[.int .i64 (p : Int), .agg #[.int .i64 k, .int .i64 n]] w fun e w' => e = .returned (.bool (mayV p k n)) ∧ Below w.heap.size w w' := by
  have hO := fun w => ofC p h1 h2 w
  have hE := fun b1 b2 b3 b4 => rec0_eq p b1 b2 b3 b4 h1 h2
  obtain ⟨r0, hr0⟩ : ∃ r0, rec0 p = r0 := ⟨_, rfl⟩
  go_enter Tryz.func74, Tryz.ntmps74
  go_upto_region 3 with (first | (go_at_call 116; refine (hO _).mono ?_; rintro e w1 ⟨b1, b2, b3, b4, rfl, hS, hB⟩; obtain ⟨ea, el, ep, eb, ec, en, ew⟩ := hE b1 b2 b3 b4; generalize recOf p b1 b2 b3 b4 = r at ea el ep eb ec en ew ⊢))
  obtain ⟨W2, hW2⟩ : ∃ W2, w1.alloc (.cells #[.string r.name, .bool r0.auto, .bool r0.length, .bool r0.part, .bool r0.below, .bool r0.color, .bool r0.number, .slice r.wa r0.wn r0.wn, .int .i64 r.k, .int .i64 r.n] 163) = W2 := ⟨_, rfl⟩
  rw [hW2]
  have hBw : Below w.heap.size w w1 := below_then (below_alloc (Below.refl _ _) _) (by rw [alloc_size]; omega) hB
  have HB2 : Below w.heap.size w W2 := by rw [← hW2]; exact below_alloc hBw _
  have hsz : w.heap.size < w1.heap.size := by have := hB.size; rw [alloc_size] at this; omega
  have hrow : W2.heap[w1.heap.size]? = some (.cells #[.string r.name, .bool r0.auto, .bool r0.length, .bool r0.part, .bool r0.below, .bool r0.color, .bool r0.number, .slice r.wa r0.wn r0.wn, .int .i64 r.k, .int .i64 r.n] 163 (0, 0)) := by rw [← hW2]; exact heap_alloc_new _ _
  have hvow : W2.heap[w.heap.size]? = some (.cells #[.int .i64 k, .int .i64 n] 109 (0, 0)) := by
    rw [← hW2]
    have a1 : w1.heap[w.heap.size]? = some (.cells #[.int .i64 k, .int .i64 n] 109 (0, 0)) := (hB.block w.heap.size (by rw [alloc_size]; omega)).trans (heap_alloc_new _ _)
    exact (heap_alloc_old _ _ hsz).trans a1
  obtain ⟨g, hg⟩ : ∃ g, w1.heap.size = g := ⟨_, rfl⟩
  obtain ⟨v, hv⟩ : ∃ v, w.heap.size = v := ⟨_, rfl⟩
  have HBA := Aside0.mk HB2
  rw [hg] at hrow ⊢
  rw [hv] at hvow ⊢
  have HR := Aside0.mk hrow
  have HV := Aside0.mk hvow
  clear hrow hvow hBw HB2 hsz hW2 hS hB hO hE
  have HM : Aside0 (mayV p k n = mayV p k n) := ⟨rfl⟩
  obtain ⟨nm, au, le, pa, be, co, nu, wa, wn, kk, nn⟩ := r0
  have HK : ∀ W, Below W2.heap.size W2 W → (∀ (j : Nat) (u : Value), (#[.string r.name, .bool au, .bool le, .bool pa, .bool be, .bool co, .bool nu, .slice r.wa wn wn, .int .i64 r.k, .int .i64 r.n] : Array Value)[j]? = some u → W.cell? ⟨g, j, none⟩ = some u) ∧ (∀ (j : Nat) (u : Value), (#[.int .i64 k, .int .i64 n] : Array Value)[j]? = some u → W.cell? ⟨v, j, none⟩ = some u) ∧ Aside0 (Below w.heap.size w W) := by
    intro W hW
    refine ⟨fun j u hj => ?_, fun j u hj => ?_, ⟨below_then HBA.out HBA.out.size hW⟩⟩
    · exact (blk_cell ((hW.block g (blk_lt HR.out)).trans HR.out) j).trans hj
    · exact (blk_cell ((hW.block v (blk_lt HV.out)).trans HV.out) j).trans hj
  have HKA := Aside0.mk HK
  clear HK HR HV
  obtain ⟨kt, kv, kb⟩ := HKA.out W2 (Below.refl _ _)
  have t1 := kt 1 _ rfl
  have t2 := kt 2 _ rfl
  have t3 := kt 3 _ rfl
  have t4 := kt 4 _ rfl
  have t5 := kt 5 _ rfl
  have t6 := kt 6 _ rfl
  have t7 := kt 7 _ rfl
  have v0 := kv 0 _ rfl
  have v1 := kv 1 _ rfl
  clear kt kv
  cases be with
  | false =>
    go_upto_region 5 with fail
    by_cases k1 : k = 1
    · subst k1
      cases au with
      | false =>
        go_wp2
        go_ret
        exact ⟨(by first | (simp [mayV, lowV, hr0]; done) | (simp [mayV, lowV, hr0]; omega)), by first | exact kb.out | (rw [← hv]; exact kb.out) | exact pw_below_drewN (kb.out) _ | (rw [← hv]; exact pw_below_drewN (kb.out) _)⟩
      | true =>
        by_cases hn : n = 0
        · subst hn
          go_wp2
          go_ret
          exact ⟨(by first | (simp [mayV, lowV, hr0]; done) | (simp [mayV, lowV, hr0]; omega)), by first | exact kb.out | (rw [← hv]; exact kb.out) | exact pw_below_drewN (kb.out) _ | (rw [← hv]; exact pw_below_drewN (kb.out) _)⟩
        · have e0 : (n == 0) = false := by simp [hn]
          go_wp2
          go_ret
          exact ⟨(by first | (simp [mayV, lowV, hr0, hn]; done) | (simp [mayV, lowV, hr0, hn]; omega)), by first | exact kb.out | (rw [← hv]; exact kb.out) | exact pw_below_drewN (kb.out) _ | (rw [← hv]; exact pw_below_drewN (kb.out) _)⟩
    have f1 : (k == 1) = false := by simp [k1]
    by_cases k2 : k = 2
    · subst k2
      cases le with
      | false =>
        go_wp2; go_quiet (fail); go_wp2
        go_ret
        exact ⟨(by first | (simp [mayV, lowV, hr0]; done) | (simp [mayV, lowV, hr0]; omega)), by first | exact kb.out | (rw [← hv]; exact kb.out) | exact pw_below_drewN (kb.out) _ | (rw [← hv]; exact pw_below_drewN (kb.out) _)⟩
      | true =>
        by_cases ha : (0 : Int) ≤ n
        · have ga : decide ((0 : Int) ≤ n) = true := decide_eq_true ha
          go_wp2; go_region_with (first | (go_at_call 117; refine (most_any _).mono ?_; rintro e W4 ⟨rfl, hB4⟩; have v4 := (HKA.out W4 (below_then (below_drew1 (Below.refl _ _)) (Nat.le_refl _) hB4)).2.1 1 _ rfl))
          all_goals (go_wp2; go_ret; exact ⟨(show _ = Ending.returned (Value.bool (decide (n ≤ 63999999999))) from rfl).trans (by first | (simp [mayV, lowV, hr0, ha]; done) | (simp [mayV, lowV, hr0, ha]; omega)), by first | exact below_then (below_drew1 kb.out) (below_drew1 kb.out).size hB4 | (rw [← hv]; exact below_then (below_drew1 kb.out) (below_drew1 kb.out).size hB4) | exact pw_below_drewN (below_then (below_drew1 kb.out) (below_drew1 kb.out).size hB4) _ | (rw [← hv]; exact pw_below_drewN (below_then (below_drew1 kb.out) (below_drew1 kb.out).size hB4) _)⟩)
        · have ga : decide ((0 : Int) ≤ n) = false := decide_eq_false ha
          go_wp2; go_quiet (fail); go_wp2
          go_ret
          exact ⟨(by first | (simp [mayV, lowV, hr0, ha]; done) | (simp [mayV, lowV, hr0, ha]; omega)), by first | exact kb.out | (rw [← hv]; exact kb.out) | exact pw_below_drewN (kb.out) _ | (rw [← hv]; exact pw_below_drewN (kb.out) _)⟩
    have f2 : (k == 2) = false := by simp [k2]
    by_cases k3 : k = 3
    · subst k3
      cases pa with
      | false =>
        go_wp2; go_quiet (fail); go_wp2
        go_ret
        exact ⟨(by first | (simp [mayV, lowV, hr0]; done) | (simp [mayV, lowV, hr0]; omega)), by first | exact kb.out | (rw [← hv]; exact kb.out) | exact pw_below_drewN (kb.out) _ | (rw [← hv]; exact pw_below_drewN (kb.out) _)⟩
      | true =>
        by_cases ha : (0 : Int) ≤ n
        · have ga : decide ((0 : Int) ≤ n) = true := decide_eq_true ha
          go_wp2; go_region_with (first | (go_at_call 117; refine (most_any _).mono ?_; rintro e W4 ⟨rfl, hB4⟩; have v4 := (HKA.out W4 (below_then (below_drew1 (Below.refl _ _)) (Nat.le_refl _) hB4)).2.1 1 _ rfl))
          all_goals (go_wp2; go_ret; exact ⟨(show _ = Ending.returned (Value.bool (decide (n ≤ 63999999999))) from rfl).trans (by first | (simp [mayV, lowV, hr0, ha]; done) | (simp [mayV, lowV, hr0, ha]; omega)), by first | exact below_then (below_drew1 kb.out) (below_drew1 kb.out).size hB4 | (rw [← hv]; exact below_then (below_drew1 kb.out) (below_drew1 kb.out).size hB4) | exact pw_below_drewN (below_then (below_drew1 kb.out) (below_drew1 kb.out).size hB4) _ | (rw [← hv]; exact pw_below_drewN (below_then (below_drew1 kb.out) (below_drew1 kb.out).size hB4) _)⟩)
        · have ga : decide ((0 : Int) ≤ n) = false := decide_eq_false ha
          go_wp2; go_quiet (fail); go_wp2
          go_ret
          exact ⟨(by first | (simp [mayV, lowV, hr0, ha]; done) | (simp [mayV, lowV, hr0, ha]; omega)), by first | exact kb.out | (rw [← hv]; exact kb.out) | exact pw_below_drewN (kb.out) _ | (rw [← hv]; exact pw_below_drewN (kb.out) _)⟩
    have f3 : (k == 3) = false := by simp [k3]
    by_cases k4 : k = 4
    · subst k4
      cases co with
      | false =>
        go_wp2
        go_ret
        exact ⟨(by first | (simp [mayV, lowV, hr0]; done) | (simp [mayV, lowV, hr0]; omega)), by first | exact kb.out | (rw [← hv]; exact kb.out) | exact pw_below_drewN (kb.out) _ | (rw [← hv]; exact pw_below_drewN (kb.out) _)⟩
      | true =>
        by_cases ha : (0 : Int) ≤ n
        · have ga : decide ((0 : Int) ≤ n) = true := decide_eq_true ha
          go_wp2
          go_ret
          exact ⟨(by first | (simp [mayV, lowV, hr0, ha]; done) | (simp [mayV, lowV, hr0, ha]; omega)), by first | exact kb.out | (rw [← hv]; exact kb.out) | exact pw_below_drewN (kb.out) _ | (rw [← hv]; exact pw_below_drewN (kb.out) _)⟩
        · have ga : decide ((0 : Int) ≤ n) = false := decide_eq_false ha
          go_wp2
          go_ret
          exact ⟨(by first | (simp [mayV, lowV, hr0, ha]; done) | (simp [mayV, lowV, hr0, ha]; omega)), by first | exact kb.out | (rw [← hv]; exact kb.out) | exact pw_below_drewN (kb.out) _ | (rw [← hv]; exact pw_below_drewN (kb.out) _)⟩
    have f4 : (k == 4) = false := by simp [k4]
    by_cases k5 : k = 5
    · subst k5
      by_cases ha : (0 : Int) ≤ n
      · have ga : decide ((0 : Int) ≤ n) = true := decide_eq_true ha
        by_cases hc : n < (wn : Int)
        · have gc : decide (n < (wn : Int)) = true := decide_eq_true hc
          go_wp2
          go_ret
          exact ⟨(by first | (simp [mayV, lowV, hr0, ha, hc]; done) | (simp [mayV, lowV, hr0, ha, hc]; omega)), by first | exact kb.out | (rw [← hv]; exact kb.out) | exact pw_below_drewN (kb.out) _ | (rw [← hv]; exact pw_below_drewN (kb.out) _)⟩
        · have gc : decide (n < (wn : Int)) = false := decide_eq_false hc
          go_wp2
          go_ret
          exact ⟨(by first | (simp [mayV, lowV, hr0, ha, hc]; done) | (simp [mayV, lowV, hr0, ha, hc]; omega)), by first | exact kb.out | (rw [← hv]; exact kb.out) | exact pw_below_drewN (kb.out) _ | (rw [← hv]; exact pw_below_drewN (kb.out) _)⟩
      · have ga : decide ((0 : Int) ≤ n) = false := decide_eq_false ha
        go_wp2
        go_ret
        exact ⟨(by first | (simp [mayV, lowV, hr0, ha]; done) | (simp [mayV, lowV, hr0, ha]; omega)), by first | exact kb.out | (rw [← hv]; exact kb.out) | exact pw_below_drewN (kb.out) _ | (rw [← hv]; exact pw_below_drewN (kb.out) _)⟩
    have f5 : (k == 5) = false := by simp [k5]
    by_cases k6 : k = 6
    · subst k6
      cases nu with
      | false =>
        go_wp2; go_quiet (fail); go_wp2
        go_ret
        exact ⟨(by first | (simp [mayV, lowV, hr0]; done) | (simp [mayV, lowV, hr0]; omega)), by first | exact kb.out | (rw [← hv]; exact kb.out) | exact pw_below_drewN (kb.out) _ | (rw [← hv]; exact pw_below_drewN (kb.out) _)⟩
      | true =>
        by_cases ha : (0 : Int) ≤ n
        · have ga : decide ((0 : Int) ≤ n) = true := decide_eq_true ha
          go_wp2; go_region_with (first | (go_at_call 117; refine (most_any _).mono ?_; rintro e W4 ⟨rfl, hB4⟩; have v4 := (HKA.out W4 (below_then (below_drew1 (Below.refl _ _)) (Nat.le_refl _) hB4)).2.1 1 _ rfl))
          all_goals (go_wp2; go_ret; exact ⟨(show _ = Ending.returned (Value.bool (decide (n ≤ 63999999999))) from rfl).trans (by first | (simp [mayV, lowV, hr0, ha]; done) | (simp [mayV, lowV, hr0, ha]; omega)), by first | exact below_then (below_drew1 kb.out) (below_drew1 kb.out).size hB4 | (rw [← hv]; exact below_then (below_drew1 kb.out) (below_drew1 kb.out).size hB4) | exact pw_below_drewN (below_then (below_drew1 kb.out) (below_drew1 kb.out).size hB4) _ | (rw [← hv]; exact pw_below_drewN (below_then (below_drew1 kb.out) (below_drew1 kb.out).size hB4) _)⟩)
        · have ga : decide ((0 : Int) ≤ n) = false := decide_eq_false ha
          go_wp2; go_quiet (fail); go_wp2
          go_ret
          exact ⟨(by first | (simp [mayV, lowV, hr0, ha]; done) | (simp [mayV, lowV, hr0, ha]; omega)), by first | exact kb.out | (rw [← hv]; exact kb.out) | exact pw_below_drewN (kb.out) _ | (rw [← hv]; exact pw_below_drewN (kb.out) _)⟩
    have f6 : (k == 6) = false := by simp [k6]
    go_wp2
    go_ret
    exact ⟨(by first | (simp [mayV, lowV, hr0, k1, k2, k3, k4, k5, k6]; done) | (simp [mayV, lowV, hr0, k1, k2, k3, k4, k5, k6]; omega)), by first | exact kb.out | (rw [← hv]; exact kb.out) | exact pw_below_drewN (kb.out) _ | (rw [← hv]; exact pw_below_drewN (kb.out) _)⟩
  | true =>
    go_upto_region 5 with (first | (go_at_call 117; refine (most_any _).mono ?_; rintro e W3 ⟨rfl, hB3⟩))
    clear t1 t2 t3 t4 t5 t6 t7 v0 v1 kb
    obtain ⟨kt, kv, kb⟩ := HKA.out W3 hB3
    have t1 := kt 1 _ rfl
    have t2 := kt 2 _ rfl
    have t3 := kt 3 _ rfl
    have t4 := kt 4 _ rfl
    have t5 := kt 5 _ rfl
    have t6 := kt 6 _ rfl
    have t7 := kt 7 _ rfl
    have v0 := kv 0 _ rfl
    have v1 := kv 1 _ rfl
    clear kt kv
    by_cases k1 : k = 1
    · subst k1
      cases au with
      | false =>
        go_wp2
        go_ret
        exact ⟨(by first | (simp [mayV, lowV, hr0]; done) | (simp [mayV, lowV, hr0]; omega)), by first | exact kb.out | (rw [← hv]; exact kb.out) | exact pw_below_drewN (kb.out) _ | (rw [← hv]; exact pw_below_drewN (kb.out) _)⟩
      | true =>
        by_cases hn : n = 0
        · subst hn
          go_wp2
          go_ret
          exact ⟨(by first | (simp [mayV, lowV, hr0]; done) | (simp [mayV, lowV, hr0]; omega)), by first | exact kb.out | (rw [← hv]; exact kb.out) | exact pw_below_drewN (kb.out) _ | (rw [← hv]; exact pw_below_drewN (kb.out) _)⟩
        · have e0 : (n == 0) = false := by simp [hn]
          go_wp2
          go_ret
          exact ⟨(by first | (simp [mayV, lowV, hr0, hn]; done) | (simp [mayV, lowV, hr0, hn]; omega)), by first | exact kb.out | (rw [← hv]; exact kb.out) | exact pw_below_drewN (kb.out) _ | (rw [← hv]; exact pw_below_drewN (kb.out) _)⟩
    have f1 : (k == 1) = false := by simp [k1]
    by_cases k2 : k = 2
    · subst k2
      cases le with
      | false =>
        go_wp2; go_quiet (fail); go_wp2
        go_ret
        exact ⟨(by first | (simp [mayV, lowV, hr0]; done) | (simp [mayV, lowV, hr0]; omega)), by first | exact kb.out | (rw [← hv]; exact kb.out) | exact pw_below_drewN (kb.out) _ | (rw [← hv]; exact pw_below_drewN (kb.out) _)⟩
      | true =>
        by_cases ha : (-63999999999 : Int) ≤ n
        · have ga : decide ((-63999999999 : Int) ≤ n) = true := decide_eq_true ha
          go_wp2; go_region_with (first | (go_at_call 117; refine (most_any _).mono ?_; rintro e W4 ⟨rfl, hB4⟩; have v4 := (HKA.out W4 (below_then (below_drew1 hB3) (below_drew1 hB3).size hB4)).2.1 1 _ rfl))
          all_goals (go_wp2; go_ret; exact ⟨(show _ = Ending.returned (Value.bool (decide (n ≤ 63999999999))) from rfl).trans (by first | (simp [mayV, lowV, hr0, ha]; done) | (simp [mayV, lowV, hr0, ha]; omega)), by first | exact below_then (below_drew1 kb.out) (below_drew1 kb.out).size hB4 | (rw [← hv]; exact below_then (below_drew1 kb.out) (below_drew1 kb.out).size hB4) | exact pw_below_drewN (below_then (below_drew1 kb.out) (below_drew1 kb.out).size hB4) _ | (rw [← hv]; exact pw_below_drewN (below_then (below_drew1 kb.out) (below_drew1 kb.out).size hB4) _)⟩)
        · have ga : decide ((-63999999999 : Int) ≤ n) = false := decide_eq_false ha
          go_wp2; go_quiet (fail); go_wp2
          go_ret
          exact ⟨(by first | (simp [mayV, lowV, hr0, ha]; done) | (simp [mayV, lowV, hr0, ha]; omega)), by first | exact kb.out | (rw [← hv]; exact kb.out) | exact pw_below_drewN (kb.out) _ | (rw [← hv]; exact pw_below_drewN (kb.out) _)⟩
    have f2 : (k == 2) = false := by simp [k2]
    by_cases k3 : k = 3
    · subst k3
      cases pa with
      | false =>
        go_wp2; go_quiet (fail); go_wp2
        go_ret
        exact ⟨(by first | (simp [mayV, lowV, hr0]; done) | (simp [mayV, lowV, hr0]; omega)), by first | exact kb.out | (rw [← hv]; exact kb.out) | exact pw_below_drewN (kb.out) _ | (rw [← hv]; exact pw_below_drewN (kb.out) _)⟩
      | true =>
        by_cases ha : (0 : Int) ≤ n
        · have ga : decide ((0 : Int) ≤ n) = true := decide_eq_true ha
          go_wp2; go_region_with (first | (go_at_call 117; refine (most_any _).mono ?_; rintro e W4 ⟨rfl, hB4⟩; have v4 := (HKA.out W4 (below_then (below_drew1 hB3) (below_drew1 hB3).size hB4)).2.1 1 _ rfl))
          all_goals (go_wp2; go_ret; exact ⟨(show _ = Ending.returned (Value.bool (decide (n ≤ 63999999999))) from rfl).trans (by first | (simp [mayV, lowV, hr0, ha]; done) | (simp [mayV, lowV, hr0, ha]; omega)), by first | exact below_then (below_drew1 kb.out) (below_drew1 kb.out).size hB4 | (rw [← hv]; exact below_then (below_drew1 kb.out) (below_drew1 kb.out).size hB4) | exact pw_below_drewN (below_then (below_drew1 kb.out) (below_drew1 kb.out).size hB4) _ | (rw [← hv]; exact pw_below_drewN (below_then (below_drew1 kb.out) (below_drew1 kb.out).size hB4) _)⟩)
        · have ga : decide ((0 : Int) ≤ n) = false := decide_eq_false ha
          go_wp2; go_quiet (fail); go_wp2
          go_ret
          exact ⟨(by first | (simp [mayV, lowV, hr0, ha]; done) | (simp [mayV, lowV, hr0, ha]; omega)), by first | exact kb.out | (rw [← hv]; exact kb.out) | exact pw_below_drewN (kb.out) _ | (rw [← hv]; exact pw_below_drewN (kb.out) _)⟩
    have f3 : (k == 3) = false := by simp [k3]
    by_cases k4 : k = 4
    · subst k4
      cases co with
      | false =>
        go_wp2
        go_ret
        exact ⟨(by first | (simp [mayV, lowV, hr0]; done) | (simp [mayV, lowV, hr0]; omega)), by first | exact kb.out | (rw [← hv]; exact kb.out) | exact pw_below_drewN (kb.out) _ | (rw [← hv]; exact pw_below_drewN (kb.out) _)⟩
      | true =>
        by_cases ha : (0 : Int) ≤ n
        · have ga : decide ((0 : Int) ≤ n) = true := decide_eq_true ha
          go_wp2
          go_ret
          exact ⟨(by first | (simp [mayV, lowV, hr0, ha]; done) | (simp [mayV, lowV, hr0, ha]; omega)), by first | exact kb.out | (rw [← hv]; exact kb.out) | exact pw_below_drewN (kb.out) _ | (rw [← hv]; exact pw_below_drewN (kb.out) _)⟩
        · have ga : decide ((0 : Int) ≤ n) = false := decide_eq_false ha
          go_wp2
          go_ret
          exact ⟨(by first | (simp [mayV, lowV, hr0, ha]; done) | (simp [mayV, lowV, hr0, ha]; omega)), by first | exact kb.out | (rw [← hv]; exact kb.out) | exact pw_below_drewN (kb.out) _ | (rw [← hv]; exact pw_below_drewN (kb.out) _)⟩
    have f4 : (k == 4) = false := by simp [k4]
    by_cases k5 : k = 5
    · subst k5
      by_cases ha : (0 : Int) ≤ n
      · have ga : decide ((0 : Int) ≤ n) = true := decide_eq_true ha
        by_cases hc : n < (wn : Int)
        · have gc : decide (n < (wn : Int)) = true := decide_eq_true hc
          go_wp2
          go_ret
          exact ⟨(by first | (simp [mayV, lowV, hr0, ha, hc]; done) | (simp [mayV, lowV, hr0, ha, hc]; omega)), by first | exact kb.out | (rw [← hv]; exact kb.out) | exact pw_below_drewN (kb.out) _ | (rw [← hv]; exact pw_below_drewN (kb.out) _)⟩
        · have gc : decide (n < (wn : Int)) = false := decide_eq_false hc
          go_wp2
          go_ret
          exact ⟨(by first | (simp [mayV, lowV, hr0, ha, hc]; done) | (simp [mayV, lowV, hr0, ha, hc]; omega)), by first | exact kb.out | (rw [← hv]; exact kb.out) | exact pw_below_drewN (kb.out) _ | (rw [← hv]; exact pw_below_drewN (kb.out) _)⟩
      · have ga : decide ((0 : Int) ≤ n) = false := decide_eq_false ha
        go_wp2
        go_ret
        exact ⟨(by first | (simp [mayV, lowV, hr0, ha]; done) | (simp [mayV, lowV, hr0, ha]; omega)), by first | exact kb.out | (rw [← hv]; exact kb.out) | exact pw_below_drewN (kb.out) _ | (rw [← hv]; exact pw_below_drewN (kb.out) _)⟩
    have f5 : (k == 5) = false := by simp [k5]
    by_cases k6 : k = 6
    · subst k6
      cases nu with
      | false =>
        go_wp2; go_quiet (fail); go_wp2
        go_ret
        exact ⟨(by first | (simp [mayV, lowV, hr0]; done) | (simp [mayV, lowV, hr0]; omega)), by first | exact kb.out | (rw [← hv]; exact kb.out) | exact pw_below_drewN (kb.out) _ | (rw [← hv]; exact pw_below_drewN (kb.out) _)⟩
      | true =>
        by_cases ha : (-63999999999 : Int) ≤ n
        · have ga : decide ((-63999999999 : Int) ≤ n) = true := decide_eq_true ha
          go_wp2; go_region_with (first | (go_at_call 117; refine (most_any _).mono ?_; rintro e W4 ⟨rfl, hB4⟩; have v4 := (HKA.out W4 (below_then (below_drew1 hB3) (below_drew1 hB3).size hB4)).2.1 1 _ rfl))
          all_goals (go_wp2; go_ret; exact ⟨(show _ = Ending.returned (Value.bool (decide (n ≤ 63999999999))) from rfl).trans (by first | (simp [mayV, lowV, hr0, ha]; done) | (simp [mayV, lowV, hr0, ha]; omega)), by first | exact below_then (below_drew1 kb.out) (below_drew1 kb.out).size hB4 | (rw [← hv]; exact below_then (below_drew1 kb.out) (below_drew1 kb.out).size hB4) | exact pw_below_drewN (below_then (below_drew1 kb.out) (below_drew1 kb.out).size hB4) _ | (rw [← hv]; exact pw_below_drewN (below_then (below_drew1 kb.out) (below_drew1 kb.out).size hB4) _)⟩)
        · have ga : decide ((-63999999999 : Int) ≤ n) = false := decide_eq_false ha
          go_wp2; go_quiet (fail); go_wp2
          go_ret
          exact ⟨(by first | (simp [mayV, lowV, hr0, ha]; done) | (simp [mayV, lowV, hr0, ha]; omega)), by first | exact kb.out | (rw [← hv]; exact kb.out) | exact pw_below_drewN (kb.out) _ | (rw [← hv]; exact pw_below_drewN (kb.out) _)⟩
    have f6 : (k == 6) = false := by simp [k6]
    go_wp2
    go_ret
    exact ⟨(by first | (simp [mayV, lowV, hr0, k1, k2, k3, k4, k5, k6]; done) | (simp [mayV, lowV, hr0, k1, k2, k3, k4, k5, k6]; omega)), by first | exact kb.out | (rw [← hv]; exact kb.out) | exact pw_below_drewN (kb.out) _ | (rw [← hv]; exact pw_below_drewN (kb.out) _)⟩
end Go.Proofs.Val
set_option linter.unusedVariables false
set_option linter.unusedSimpArgs false
namespace Go.Proofs.Val
open Go.RowKit Go.Proofs Go.Proofs.YtolfpgccebdlpaaGreatDoorW.PrintWords
def cl (p : Int) : Nat := if 1 ≤ p ∧ p ≤ 26 then p.toNat else 0
theorem cl_in {p : Int} (h1 : 1 ≤ p) (h2 : p ≤ 26) : cl p = p.toNat := if_pos ⟨h1, h2⟩
theorem cl_out {p : Int} (h : ¬ (1 ≤ p ∧ p ≤ 26)) : cl p = 0 := if_neg h
theorem cl_le (p : Int) : cl p ≤ 26 := by unfold cl; split <;> omega
def wordsP (p : Nat) : List ByteArray :=
  if p = 1 then [⟨#[98, 108, 111, 99, 107]⟩, ⟨#[105, 110, 108, 105, 110, 101]⟩, ⟨#[102, 108, 101, 120]⟩, ⟨#[110, 111, 110, 101]⟩]
  else if p = 19 then [⟨#[108, 101, 102, 116]⟩, ⟨#[99, 101, 110, 116, 101, 114]⟩, ⟨#[114, 105, 103, 104, 116]⟩]
  else if p = 22 then [⟨#[114, 111, 119]⟩, ⟨#[99, 111, 108, 117, 109, 110]⟩]
  else if p = 23 then [⟨#[115, 116, 97, 114, 116]⟩, ⟨#[99, 101, 110, 116, 101, 114]⟩, ⟨#[101, 110, 100]⟩, ⟨#[98, 101, 116, 119, 101, 101, 110]⟩]
  else []
def recA (p : Nat) (wa : Option Addr) : SortRec := { rec0 p with wa := wa }
structure WordsIn (w : World) (wa : Option Addr) (l : List ByteArray) : Prop where
  at_ : l = [] ∨ ∃ b, wa = some ⟨b, 0, none⟩ ∧ ∀ j, j < l.length → w.cell? ⟨b, 0 + j, none⟩ = some (.string (l.getD j ByteArray.empty))
theorem WordsIn.below {w w' : World} {wa : Option Addr} {l : List ByteArray} (h : WordsIn w wa l) (hb : Below w.heap.size w w') : WordsIn w' wa l := by
  rcases h.at_ with h | ⟨b, e, h⟩
  · exact ⟨.inl h⟩
  · exact ⟨.inr ⟨b, e, fun j hj => (hb.cell (World.block_lt_of_cell? _ _ (h j hj))).trans (h j hj)⟩⟩
theorem wordsP_len (p : Nat) (h : p ≤ 26) : (rec0 p).wn = (wordsP p).length := by
  by_cases h0 : p = 0
  · subst h0; rfl
  · rcases cases26 (by omega) h with rfl | rfl | rfl | rfl | rfl | rfl | rfl | rfl | rfl | rfl | rfl | rfl | rfl | rfl | rfl | rfl | rfl | rfl | rfl | rfl | rfl | rfl | rfl | rfl | rfl | rfl <;> rfl
theorem words_row {W : World} {b : Nat} {l : List (List UInt8)} (h : WordRow' W b 9 l) : ∀ j, j < (l.map fun s => (⟨s.toArray⟩ : ByteArray)).length → W.cell? ⟨b, 0 + j, none⟩ = some (.string ((l.map fun s => (⟨s.toArray⟩ : ByteArray)).getD j ByteArray.empty)) := fun j hj => by
  rw [List.length_map] at hj
  rw [Nat.zero_add, cell_of_row _ _ _ _ _ _ h]
  simp [List.getD, List.getElem?_eq_getElem hj]
theorem rec_words {w W : World} {b1 b2 b3 b4 : Nat} (p : Nat) (h1 : 1 ≤ p) (h2 : p ≤ 26) (h : SortWords w W b1 b2 b3 b4) :
    recOf p b1 b2 b3 b4 = recA p (recOf p b1 b2 b3 b4).wa ∧ WordsIn W (recOf p b1 b2 b3 b4).wa (wordsP p) := by
  have r1 := words_row h.r1
  have r2 := words_row h.r2
  have r3 := words_row h.r3
  have r4 := words_row h.r4
  rcases cases26 h1 h2 with rfl | rfl | rfl | rfl | rfl | rfl | rfl | rfl | rfl | rfl | rfl | rfl | rfl | rfl | rfl | rfl | rfl | rfl | rfl | rfl | rfl | rfl | rfl | rfl | rfl | rfl
  all_goals refine ⟨rfl, ⟨?_⟩⟩
  all_goals first | exact .inl rfl | exact .inr ⟨_, rfl, r1⟩ | exact .inr ⟨_, rfl, r2⟩ | exact .inr ⟨_, rfl, r3⟩ | exact .inr ⟨_, rfl, r4⟩
set_option maxHeartbeats 1000000 in
theorem ofP (p : Int) (w : World) :
    Calls Tryz.prog 116 #[.int .i64 p] w fun e w' => ∃ wa, e = .returned (.tuple #[recV (recA (cl p) wa), .bool (decide (1 ≤ p ∧ p ≤ 26))]) ∧ WordsIn w' wa (wordsP (cl p)) ∧ Below w.heap.size w w' := by
  by_cases h : 1 ≤ p ∧ p ≤ 26
  · obtain ⟨q, rfl⟩ : ∃ q : Nat, p = (q : Int) := ⟨p.toNat, by omega⟩
    rw [cl_in h.1 h.2, decide_eq_true h, Int.toNat_natCast]
    refine (ofC q (by omega) (by omega) w).mono ?_
    rintro e w' ⟨b1, b2, b3, b4, rfl, hw, hb⟩
    obtain ⟨r1, r2⟩ := rec_words q (by omega) (by omega) hw
    exact ⟨_, by rw [← r1], r2, hb⟩
  · rw [cl_out h, decide_eq_false h]
    by_cases h1 : p < 1
    · have d1 : decide (p < 1) = true := decide_eq_true h1
      clear h
      go_enter Tryz.func116, Tryz.ntmps116
      go_wp2
      refine bodyPost_ret (v := .tuple #[recV (recA 0 none), .bool false]) (by simp [results, Tryz.results116, go_sem, recA, rec0, recOf, recs]) rfl ⟨none, rfl, ⟨.inl rfl⟩, (Below.refl _ _).alloc (Nat.le_refl _) _⟩
    · have d1 : decide (p < 1) = false := decide_eq_false h1
      have d2 : decide (27 ≤ p) = true := decide_eq_true (by omega)
      clear h
      go_enter Tryz.func116, Tryz.ntmps116
      go_wp2
      refine bodyPost_ret (v := .tuple #[recV (recA 0 none), .bool false]) (by simp [results, Tryz.results116, go_sem, recA, rec0, recOf, recs]) rfl ⟨none, rfl, ⟨.inl rfl⟩, (Below.refl _ _).alloc (Nat.le_refl _) _⟩
def nameP (p : Int) : ByteArray := (rec0 (cl p)).name
set_option maxHeartbeats 1000000 in
theorem nameC (p : Int) (w : World) : Calls Tryz.prog 76 #[.int .i64 p] w fun e w' => e = .returned (.string (nameP p)) ∧ Below w.heap.size w w' := by
  go_enter Tryz.func76, Tryz.ntmps76
  go_wp2_with (go_at_call 116; refine (ofP p _).mono ?_; rintro e w' ⟨wa, rfl, hw, hb⟩; clear hw)
  go_ret
  exact ⟨rfl, hb.alloc hb.size _⟩
def namesL : List ByteArray := (List.range 26).map fun k => (rec0 (k + 1)).name
def propI (s : ByteArray) : Int := Lib.idxOfS namesL s
def propV (s : ByteArray) : Int := max (propI s + 1) 0
theorem ba_eq (s t : ByteArray) : (s.toList == t.toList) = decide (s = t) := by
  by_cases h : s = t
  · rw [decide_eq_true h, h]; simp
  · rw [decide_eq_false h]
    refine beq_eq_false_iff_ne.2 fun e => h ?_
    rw [Lib.toList_data, Lib.toList_data] at e
    cases s; cases t
    exact congrArg ByteArray.mk (Array.toList_inj.1 e)
set_option maxHeartbeats 1000000 in
theorem prop1C (r : SortRec) (s : ByteArray) (nb : Nat) (w : World) (hn : w.cell? ⟨nb, 0, none⟩ = some (.string s)) :
    Calls Tryz.prog 173 #[recV r, .pointer (some ⟨nb, 0, none⟩)] w fun e w' => e = .returned (.bool (decide (r.name = s))) ∧ Below w.heap.size w w' := by
  have hlt := World.block_lt_of_cell? _ _ hn
  go_enter Tryz.func173, Tryz.ntmps173
  go_wp2
  go_ret
  exact ⟨by rw [← ba_eq]; rfl, below_alloc (Below.refl _ _) _⟩
theorem at_SA (q : Nat) (hq : q < 26) (b1 b2 b3 b4 : Nat) (g : Nat) (w : World) (h : w.heap[g]? = some (.cells (SA 4 b1 b2 b3 b4) 191 (0, 0))) :
    w.cell? ⟨g, 10 + q * 10, none⟩ = some (.string (recOf (q + 1) b1 b2 b3 b4).name) ∧ w.cell? ⟨g, 10 + q * 10 + 1, none⟩ = some (.bool (recOf (q + 1) b1 b2 b3 b4).auto) ∧ w.cell? ⟨g, 10 + q * 10 + 2, none⟩ = some (.bool (recOf (q + 1) b1 b2 b3 b4).length) ∧ w.cell? ⟨g, 10 + q * 10 + 3, none⟩ = some (.bool (recOf (q + 1) b1 b2 b3 b4).part) ∧ w.cell? ⟨g, 10 + q * 10 + 4, none⟩ = some (.bool (recOf (q + 1) b1 b2 b3 b4).below) ∧ w.cell? ⟨g, 10 + q * 10 + 5, none⟩ = some (.bool (recOf (q + 1) b1 b2 b3 b4).color) ∧ w.cell? ⟨g, 10 + q * 10 + 6, none⟩ = some (.bool (recOf (q + 1) b1 b2 b3 b4).number) ∧ w.cell? ⟨g, 10 + q * 10 + 7, none⟩ = some (.slice (recOf (q + 1) b1 b2 b3 b4).wa (recOf (q + 1) b1 b2 b3 b4).wn (recOf (q + 1) b1 b2 b3 b4).wn) ∧ w.cell? ⟨g, 10 + q * 10 + 8, none⟩ = some (.int .i64 (recOf (q + 1) b1 b2 b3 b4).k) ∧ w.cell? ⟨g, 10 + q * 10 + 9, none⟩ = some (.int .i64 (recOf (q + 1) b1 b2 b3 b4).n) := by
  have hc : ∀ o, w.cell? ⟨g, o, none⟩ = (SA 4 b1 b2 b3 b4)[o]? := fun o => cell_of_row _ _ _ _ _ _ h
  simp only [hc]
  rcases cases26 (by omega : 1 ≤ q + 1) (by omega) with h | h | h | h | h | h | h | h | h | h | h | h | h | h | h | h | h | h | h | h | h | h | h | h | h | h
  all_goals
    obtain rfl := Nat.succ.inj h
    exact ⟨by kernel_rfl, by kernel_rfl, by kernel_rfl, by kernel_rfl, by kernel_rfl, by kernel_rfl, by kernel_rfl, by kernel_rfl, by kernel_rfl, by kernel_rfl⟩
theorem name_recOf (p b1 b2 b3 b4 : Nat) (h1 : 1 ≤ p) (h2 : p ≤ 26) : (recOf p b1 b2 b3 b4).name = (rec0 p).name := by
  rcases cases26 h1 h2 with rfl | rfl | rfl | rfl | rfl | rfl | rfl | rfl | rfl | rfl | rfl | rfl | rfl | rfl | rfl | rfl | rfl | rfl | rfl | rfl | rfl | rfl | rfl | rfl | rfl | rfl <;> rfl
theorem names_len : namesL.length = 26 := rfl
theorem names_at (q : Nat) (h : q < 26) : namesL.getD q ByteArray.empty = (rec0 (q + 1)).name := by
  unfold namesL
  rw [List.getD, List.getElem?_map, List.getElem?_range h]
  rfl
set_option maxHeartbeats 2000000 in
set_option maxRecDepth 100000 in
theorem index38 (s : ByteArray) (g nb b1 b2 b3 b4 : Nat) (w : World) (hg : w.heap[g]? = some (.cells (SA 4 b1 b2 b3 b4) 191 (0, 0))) (hn : w.cell? ⟨nb, 0, none⟩ = some (.string s)) :
    Calls Tryz.prog 172 #[.slice (some ⟨g, 10, none⟩) 26 26, .func (.func 173) #[] #[.pointer (some ⟨nb, 0, none⟩)]] w fun e w' => e = .returned (.int .i64 (propI s)) ∧ Below w.heap.size w w' := by
  have lg := lt_get hg
  have ln := World.block_lt_of_cell? _ _ hn
  go_enter Tryz.func172, Tryz.ntmps172
  go_wp2
  have HG := Lib.hid (And.intro hg hn)
  clear hg hn
  go_loopw [5, 8, 9, 10, 11, 12, 13, 14, 15, 16, 18] (fun _ i _ _ _ _ _ _ _ _ _ wr => ∃ k : Nat, k ≤ 26 ∧ i = .int .i64 k ∧ Hid (∀ j, j < k → namesL.getD j ByteArray.empty ≠ s) ∧ Hid (Below w.heap.size w wr)) (fun _ i _ _ _ _ _ _ _ _ _ _ => 26 - (RowKit.intOf i).toNat)
  case atStart => exact ⟨0, by omega, rfl, Lib.hid (fun j hj => by omega), Lib.hid (Below.refl _ _)⟩
  case round =>
    obtain ⟨k, hk, rfl, N1, B1⟩ := hrel
    by_cases hlt : k < 26
    · have g1 : decide ((k : Int) < 26) = true := decide_eq_true (by omega)
      have hg2 : wr.heap[g]? = some (.cells (SA 4 b1 b2 b3 b4) 191 (0, 0)) := below_of_row B1.out HG.out.1 lg
      have hn2 : wr.cell? ⟨nb, 0, none⟩ = some (.string s) := (B1.out.cell (p := ⟨nb, 0, none⟩) ln).trans HG.out.2
      obtain ⟨a0, a1, a2, a3, a4, a5, a6, a7, a8, a9⟩ := at_SA k hlt b1 b2 b3 b4 g wr hg2
      have hx := prop1C (recOf (k + 1) b1 b2 b3 b4) s nb wr hn2
      have hnm := name_recOf (k + 1) b1 b2 b3 b4 (by omega) (by omega)
      have hat := names_at k hlt
      rw [← hnm] at hat
      clear hg2 hn2 hnm
      generalize recOf (k + 1) b1 b2 b3 b4 = r at a0 a1 a2 a3 a4 a5 a6 a7 a8 a9 hx hat
      by_cases he : r.name = s
      · rw [decide_eq_true he] at hx
        have HE := Lib.hid (show propI s = (k : Int) from by
          have := Lib.idxFromS_hit s namesL k 0 (by rw [names_len]; exact hlt) (hat.trans he) N1.out
          rw [Nat.zero_add] at this
          exact this)
        clear he hat
        go_wp2_with (first | (go_at_call 173; refine (hx).mono ?_; rintro e w' ⟨rfl, hB⟩))
        go_ret
        exact ⟨(show _ = Ending.returned (Value.int .i64 (k : Int)) from rfl).trans (by rw [HE.out]), below_then B1.out B1.out.size hB⟩
      · rw [decide_eq_false he] at hx
        have HE := Lib.hid (show namesL.getD k ByteArray.empty ≠ s from by rw [hat]; exact he)
        clear he hat
        go_wp2_with (first | (go_at_call 173; refine (hx).mono ?_; rintro e w' ⟨rfl, hB⟩))
        exact ⟨⟨k + 1, by omega, by go_num, Lib.hid (fun j hj => by
          by_cases e : j = k
          · rw [e]; exact HE.out
          · exact N1.out j (by omega)), Lib.hid (below_then B1.out B1.out.size hB)⟩, by simp [RowKit.intOf]; omega⟩
    · obtain rfl : k = 26 := by omega
      have HE := Lib.hid (show propI s = -1 from Lib.idxFromS_miss s namesL 0 (by rw [names_len]; exact N1.out))
      go_wp2
      go_ret
      exact ⟨(show _ = Ending.returned (Value.int .i64 (-1)) from rfl).trans (by rw [HE.out]), B1.out⟩
theorem idxFrom_bd (x : ByteArray) : ∀ (zs : List ByteArray) (i : Nat), Lib.idxFromS zs x i = -1 ∨ ((i : Int) ≤ Lib.idxFromS zs x i ∧ Lib.idxFromS zs x i < (i : Int) + zs.length)
  | [], i => by left; simp [Lib.idxFromS]
  | z :: zs, i => by
    by_cases h : z = x
    · right; simp [Lib.idxFromS, h]; omega
    · have := idxFrom_bd x zs (i + 1)
      simp only [Lib.idxFromS, if_neg h, List.length_cons]
      omega
theorem propI_bd (s : ByteArray) : -1 ≤ propI s ∧ propI s < 26 := by
  have := idxFrom_bd s namesL 0
  rw [names_len] at this
  unfold propI Lib.idxOfS
  omega
set_option maxHeartbeats 2000000 in
set_option maxRecDepth 100000 in
theorem propC (s : ByteArray) (w : World) : Calls Tryz.prog 143 #[.string s] w fun e w' => e = .returned (.int .i64 (propV s)) ∧ Below w.heap.size w w' := by
  go_enter Tryz.func143, Tryz.ntmps143
  go_upto_region 2 with (first
    | (go_at_call 147; refine (sortsC _).mono ?_; rintro e w1 ⟨b1, b2, b3, b4, rfl, hS, hb1⟩; clear hS)
    | (refine wpList_store_row rfl 191 _ _ rfl _ (SA 4 b1 b2 b3 b4) rfl rfl 191 z95 (heap_alloc_at _ _ ?_) (info95.trans (congrArg some (size_SA 4 b1 b2 b3 b4 (by omega)).symm)) (size_z95.trans (size_SA 4 b1 b2 b3 b4 (by omega)).symm) (all_SA4 _ _ _ _) ?_; · simp))
  obtain ⟨V, hV⟩ : ∃ V, V = (w1.alloc (Obj.cells Tryz.zeroCells191 191)).setRow w1.heap.size (SA 4 b1 b2 b3 b4) := ⟨_, rfl⟩
  have hsz : w.heap.size < w1.heap.size := by have := hb1.size; rw [alloc_size] at this; omega
  have hg : V.heap[w1.heap.size]? = some (.cells (SA 4 b1 b2 b3 b4) 191 (0, 0)) := by rw [hV]; exact setRow_heap _ _ _ _ _ _ (heap_alloc_new _ _)
  have hn : V.cell? ⟨w.heap.size, 0, none⟩ = some (.string s) := by
    have h0 : (w.alloc (Obj.cells #[.string s] 9)).heap[w.heap.size]? = some (.cells #[.string s] 9 (0, 0)) := heap_alloc_new _ _
    have h1 := below_of_row hb1 h0 (by rw [alloc_size]; omega)
    have h2 : V.heap[w.heap.size]? = some (.cells #[.string s] 9 (0, 0)) := by
      rw [hV, setRow_other _ _ _ _ (by omega), alloc_get, if_neg (by omega)]
      exact h1
    exact (cell_of_row V _ 0 _ _ _ h2).trans rfl
  have p1 : Below w.heap.size w w1 := ((Below.refl _ _).alloc (Nat.le_refl _) _).trans (hb1.mono (by rw [alloc_size]; omega))
  have pV : Below w.heap.size w V := by rw [hV]; exact below_setRow (p1.alloc p1.size _) _ _ p1.size
  rw [← hV]
  clear hV hb1
  have hx := index38 s w1.heap.size w.heap.size b1 b2 b3 b4 V hg hn
  have lg := lt_get hg
  clear hg hn
  obtain ⟨i, hi⟩ : ∃ i, propI s = i := ⟨_, rfl⟩
  have hb : -1 ≤ i ∧ i < 26 := by rw [← hi]; exact propI_bd s
  have HV := Lib.hid (show propV s = max (i + 1) 0 by unfold propV; rw [hi])
  rw [hi] at hx
  clear hi
  go_wp2_with (first | (go_at_call 172; refine (hx).mono ?_; rintro e w' ⟨rfl, hB⟩))
  go_ret
  exact ⟨(show _ = Ending.returned (Value.int .i64 (max (i + 1) 0)) from rfl).trans (by rw [HV.out]), pV.trans (hB.mono pV.size)⟩
end Go.Proofs.Val
