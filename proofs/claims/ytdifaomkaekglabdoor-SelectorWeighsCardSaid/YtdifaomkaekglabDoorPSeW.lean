/- The plain half of SelectorWeighs. -/
import Derived.Test.YtdifaomkaekglabDoorPSeD
import Derived.Test.YtdifaomkaekglabDoorHW
set_option linter.unusedVariables false
set_option linter.unusedSimpArgs false
namespace Go.Proofs.YtdifaomkaekglabDoor.Pure
open Go.RowKit Go.Proofs.YtdifaomkaekglabDoor.HS Go.Proofs.YtdifaomkaekglabDoorW.PrintWords Go.Proofs.YtdifaomkaekglabDoorW.PrintLast Go.Proofs.YtdifaomkaekglabDoorW.PrintMore Go.Proofs.Scn Go.Proofs.Tok
abbrev SMP := S44
/-- a part's weight, as a number -/
def wNat (x : SMP) : Int := 10000 * (x.f1.length : Int) + 100 * ((x.f2.length : Int) + truthV x.f3 + truthV x.f4) + truthV (x.f0.toList != ([] : List UInt8))
def wSum (xs : List SMP) : Int := (xs.map wNat).sum
theorem truth_le (b : Bool) : 0 ≤ truthV b ∧ truthV b ≤ 1 := by cases b <;> decide
theorem wOf_eq (x : SMP) (h1 : x.f1.length ≤ 10000) (h2 : x.f2.length ≤ 10000) : wOf x = wNat x ∧ 0 ≤ wNat x ∧ wNat x ≤ 102000000 := by
  have a := truth_le x.f3
  have b := truth_le x.f4
  have c := truth_le (x.f0.toList != ([] : List UInt8))
  unfold wOf wNat
  generalize truthV x.f3 = t3 at a ⊢
  generalize truthV x.f4 = t4 at b ⊢
  generalize truthV (x.f0.toList != ([] : List UInt8)) = t0 at c ⊢
  refine ⟨?_, by omega, by omega⟩
  rw [w64 (n := (x.f2.length : Int) + t3) (by omega) (by omega), w64 (n := (x.f2.length : Int) + t3 + t4) (by omega) (by omega), w64 (n := 100 * ((x.f2.length : Int) + t3 + t4)) (by omega) (by omega), w64 (n := 10000 * (x.f1.length : Int)) (by omega) (by omega), w64 (n := 10000 * (x.f1.length : Int) + 100 * ((x.f2.length : Int) + t3 + t4)) (by omega) (by omega), w64 (n := 1 * t0) (by omega) (by omega), w64 (by omega) (by omega)]
  omega
def okW (xs : List SMP) : Prop := ∀ x ∈ xs, x.f1.length ≤ 10000 ∧ x.f2.length ≤ 10000
theorem wSum_cons (x : SMP) (xs : List SMP) : wSum (x :: xs) = wNat x + wSum xs := by unfold wSum; rw [List.map_cons, List.sum_cons]
theorem wSum_bound : ∀ (xs : List SMP), okW xs → 0 ≤ wSum xs ∧ wSum xs ≤ 102000000 * (xs.length : Int)
  | [], _ => by simp [wSum]
  | x :: xs, h => by
    have ih := wSum_bound xs fun y hy => h y (by simp [hy])
    have hx := (wOf_eq x (h x (by simp)).1 (h x (by simp)).2).2
    rw [wSum_cons, List.length_cons]
    omega
theorem wL_eq : ∀ (xs : List SMP) (n : Int), okW xs → 0 ≤ n → n + 102000000 * (xs.length : Int) ≤ 9000000000000000000 → wL n xs = n + wSum xs
  | [], n, _, _, _ => by simp [wL, wSum]
  | x :: xs, n, h, hn, hb => by
    obtain ⟨e, h0, h1⟩ := wOf_eq x (h x (by simp)).1 (h x (by simp)).2
    rw [List.length_cons] at hb
    rw [wL, e, w64 (by omega) (by omega), wL_eq xs _ (fun y hy => h y (by simp [hy])) (by omega) (by omega), wSum_cons]
    omega
theorem wSum_take : ∀ (xs : List SMP) (i : Nat) (h : i < xs.length), wSum (xs.take (i + 1)) = wSum (xs.take i) + wNat xs[i]
  | x :: xs, 0, _ => by rw [List.take_succ_cons, List.take_zero, List.take_zero, wSum_cons]; simp [wSum]
  | x :: xs, i + 1, h => by
    rw [List.take_succ_cons, List.take_succ_cons, wSum_cons, wSum_cons, wSum_take xs i (by simpa using h)]
    simp
    omega
theorem wSum_set : ∀ (xs : List SMP) (i : Nat) (h : i < xs.length) (y : SMP), wSum (xs.set i y) = wSum xs - wNat xs[i] + wNat y
  | x :: xs, 0, _, y => by rw [List.set_cons_zero, wSum_cons, wSum_cons]; simp; omega
  | x :: xs, i + 1, h, y => by
    rw [List.set_cons_succ, wSum_cons, wSum_cons, wSum_set xs i (by simpa using h) y]
    simp
    omega
theorem weighs_l (xs : List SMP) (bs : List Bool) (a1 : Int) (hl : xs.length ≤ 500) (hw : ∀ x ∈ xs, x.f1.length ≤ 500 ∧ x.f2.length ≤ 500) : ∀ (d i : Nat), i + d = xs.length → Ev (fun k => scrimlaw09_SelectorWeighs.l0 k a1 (wSum (xs.take i)) xs (xs.length : Int) (i : Int) xs bs) true
  | 0, i, h => by
    obtain rfl : i = xs.length := by omega
    have hok : okW xs := fun x hx => ⟨by have := (hw x hx).1; omega, by have := (hw x hx).2; omega⟩
    have hb := wSum_bound xs hok
    have e0 := wL_eq xs 0 hok (by omega) (by omega)
    rw [Int.zero_add] at e0
    have hW := rWeight xs bs (by omega)
    rw [e0] at hW
    rw [List.take_length]
    refine Ev.step (f := fun k => (selector_Weight.f k xs bs).bind fun t238 => (if wSum xs = t238 then (if a1 < 0 then (some true) else (if a1 ≥ (xs.length : Int) then (some true) else ((selector_Weight.f k (xs.set a1.toNat (⟨(rd_T44 xs a1).f0, (rd_T44 xs a1).f1 ++ [(⟨#[109, 111, 114, 101]⟩ : ByteArray)], (rd_T44 xs a1).f2, (rd_T44 xs a1).f3, (rd_T44 xs a1).f4⟩ : SMP)) bs).bind fun t260 => (some (t260 == (wrap64 (wSum xs + 10000))))))) else (some false))) (fun k => ?_) ?_
    · rw [scrimlaw09_SelectorWeighs.l0, if_neg (by omega)]
      congr 1
      funext t238
      by_cases c : wSum xs = t238
      · rw [if_pos c, if_pos c]
        by_cases c1 : a1 < 0
        · rw [if_pos c1, if_pos c1]
        · rw [if_neg c1, if_neg c1]
          by_cases c2 : a1 ≥ (xs.length : Int)
          · rw [if_pos c2, if_pos c2]
          · obtain ⟨j, rfl⟩ : ∃ j : Nat, a1 = (j : Int) := ⟨a1.toNat, by omega⟩
            have hj : j < xs.length := by omega
            have h1 := (hw _ (List.getElem_mem hj)).1
            rw [if_neg c2, if_neg c2, Option.bind_some, if_pos (by simp; omega), Option.bind_some, Option.bind_some, List.nil_append, if_pos (by omega), if_pos (by omega), rd44_at hj, if_pos (by simp; omega), List.nil_append, if_pos (by simp; omega)]
      · rw [if_neg c, if_neg c]
    · refine Ev.bind hW ?_
      simp only [if_true]
      by_cases c1 : a1 < 0
      · simp only [if_pos c1]; exact Ev.now true
      · simp only [if_neg c1]
        by_cases c2 : a1 ≥ (xs.length : Int)
        · simp only [if_pos c2]; exact Ev.now true
        · obtain ⟨j, rfl⟩ : ∃ j : Nat, a1 = (j : Int) := ⟨a1.toNat, by omega⟩
          have hj : j < xs.length := by omega
          simp only [if_neg c2, Int.toNat_natCast, rd44_at hj]
          have hx := hw _ (List.getElem_mem hj)
          generalize hy : (⟨xs[j].f0, xs[j].f1 ++ [(⟨#[109, 111, 114, 101]⟩ : ByteArray)], xs[j].f2, xs[j].f3, xs[j].f4⟩ : SMP) = y
          have hyw : wNat y = wNat xs[j] + 10000 := by
            rw [← hy]
            unfold wNat
            simp only [List.length_append, List.length_cons, List.length_nil]
            omega
          have hok2 : okW (xs.set j y) := by
            intro x hxm
            rcases List.mem_or_eq_of_mem_set hxm with hxm | rfl
            · exact hok x hxm
            · rw [← hy]
              simp only [List.length_append, List.length_cons, List.length_nil]
              omega
          have e1 := wL_eq (xs.set j y) 0 hok2 (by omega) (by rw [List.length_set]; omega)
          have hW2 := rWeight (xs.set j y) bs (by rw [List.length_set]; omega)
          rw [e1, Int.zero_add, wSum_set xs j hj y, hyw] at hW2
          refine Ev.bind hW2 ((Ev.now _).eq ?_)
          rw [w64 (by omega) (by omega), beq_iff_eq]
          omega
  | d + 1, i, h => by
    have hi : i < xs.length := by omega
    have hx := hw _ (List.getElem_mem hi)
    have hok : okW [xs[i]] := fun x hxm => by rw [List.mem_singleton.1 hxm]; exact ⟨by omega, by omega⟩
    have hok2 : okW xs := fun x hx => ⟨by have := (hw x hx).1; omega, by have := (hw x hx).2; omega⟩
    have hokt : okW (xs.take i) := fun x hxm => hok2 x (List.mem_of_mem_take hxm)
    have hbt := wSum_bound (xs.take i) hokt
    rw [List.length_take] at hbt
    have hwn := (wOf_eq xs[i] (by omega) (by omega)).2
    have e0 := wL_eq [xs[i]] 0 hok (by omega) (by simp)
    rw [Int.zero_add, wSum_cons, show wSum [] = 0 from rfl, Int.add_zero] at e0
    have hW := rWeight [xs[i]] [] (by simp)
    rw [e0] at hW
    refine Ev.step (f := fun k => (selector_Weight.f k [xs[i]] []).bind fun t237 => (scrimlaw09_SelectorWeighs.l0 k a1 (wrap64 (wSum (xs.take i) + t237)) xs (xs.length : Int) (wrap64 ((i : Int) + 1)) xs bs)) (fun k => by rw [scrimlaw09_SelectorWeighs.l0, if_pos (by omega), if_pos (by omega), if_pos (by omega), rd44_at hi]) ?_
    refine Ev.bind hW ?_
    rw [w64 (n := wSum (xs.take i) + wNat xs[i]) (by omega) (by omega), w64s i (by omega), ← wSum_take xs i hi]
    exact weighs_l xs bs a1 hl hw d (i + 1) (by omega)
theorem SelectorWeighs (xs : List SMP) (bs : List Bool) (a1 : Int) (hl : xs.length < 1954687338268) (hz : ∀ x ∈ xs, small (c50 x)) (_ : True) : ∃ k, scrimlaw09_SelectorWeighs.f k xs bs a1 = some true := by
  refine Ev.rounds (g := fun k => scrimlaw09_SelectorWeighs.f k xs bs a1) ?_
  unfold scrimlaw09_SelectorWeighs.f
  refine Ev.bind awake ?_
  simp only [if_true]
  refine Ev.bind (rOwn xs bs hl) ?_
  obtain ⟨b, hb, hbf⟩ := rLarge (xs.map c50) bs (fun y hy => by obtain ⟨x, hx, rfl⟩ := List.mem_map.1 hy; exact hz x hx)
  refine Ev.bind hb ?_
  cases b with
  | true => exact Ev.now true
  | false =>
    obtain ⟨hc, hb1⟩ := hbf rfl
    have h5 := Nat.le_trans (cost_len xs) hc
    refine weighs_l xs bs a1 h5 (fun x hx => ?_) xs.length 0 (by omega)
    have h1 := cost_mem hx
    have h2 := sumL_len x.f1
    have h3 := sumL_len x.f2
    have e : cost (c50 x) = 1 + x.f0.size + sumL x.f1 + sumL x.f2 := rfl
    omega
end Go.Proofs.YtdifaomkaekglabDoor.Pure
