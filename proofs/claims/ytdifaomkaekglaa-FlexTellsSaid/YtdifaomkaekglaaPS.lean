/- Plain lemmas over the printed functions: sums, parts, Justify, the checks of awake; no condition beside those that each theorem states. -/
import Derived.Test.YtdifaomkaekglaaHF2
import Derived.KernelRfl
namespace Go.Proofs.FlexP
open Go.RowKit Go.Proofs Go.Proofs.Prt Go.Proofs.Flx Go.Proofs.Stable Go.Proofs.Ytdifaomkaekglaa.HF Go.Proofs.YtdifaomkaekglaaW.PrintWords Go.Proofs.YtdifaomkaekglaaW.PrintLast Go.Proofs.YtdifaomkaekglaaW.PrintMore
set_option linter.unusedVariables false
set_option linter.unusedSimpArgs false
abbrev Res := List Int × Bool
theorem w64 {n : Int} (h1 : -9223372036854775808 ≤ n) (h2 : n ≤ 9223372036854775807) : wrap64 n = n := by unfold wrap64; omega
theorem mx_eq (a b : Int) : mx a b = max a b := by unfold mx; split <;> omega
theorem mn_eq (a b : Int) : mn a b = min a b := by unfold mn; split <;> omega
theorem rClamp (a : Int) : scrimref01_Clamp.f a = some (clampV a, clampB a) := by
  unfold scrimref01_Clamp.f
  by_cases h1 : a > 1099511627776
  · rw [if_pos h1, clampV_hi h1, clampB_f (.inr h1)]
  · rw [if_neg h1]
    by_cases h2 : a < -1099511627776
    · rw [if_pos h2, clampV_lo h2, clampB_f (.inl h2)]
    · rw [if_neg h2, clampV_t (by omega) (by omega), clampB_t (by omega) (by omega)]
theorem and3 {α : Type} (x : α) (p q s : Bool) : (if p = true then (if q = true then some (x, s) else some (x, false)) else some (x, false)) = some (x, s && p && q) := by
  cases p <;> cases q <;> cases s <;> rfl
theorem rAdd (a b : Int) : scrimref01_Add.f a b = some (addV a b, addB a b) := by
  obtain ⟨a1, a2⟩ := clampV_bd a
  obtain ⟨b1, b2⟩ := clampV_bd b
  unfold scrimref01_Add.f
  simp only [rClamp, Option.bind_some]
  rw [w64 (by omega) (by omega), and3]
  rfl
theorem rSub (a b : Int) : scrimref01_Sub.f a b = some (subV a b, subB a b) := by
  obtain ⟨a1, a2⟩ := clampV_bd a
  obtain ⟨b1, b2⟩ := clampV_bd b
  unfold scrimref01_Sub.f
  simp only [rClamp, Option.bind_some]
  rw [w64 (by omega) (by omega), and3]
  rfl
theorem rd_nat (xs : List Int) (i : Nat) : rd xs (i : Int) = xs.getD i 0 := by unfold rd; rw [Int.toNat_natCast]
theorem w64s {i n : Nat} (h : i < n) (hn : n ≤ 9223372036854775807) : wrap64 ((i : Int) + 1) = ((i + 1 : Nat) : Int) := by rw [w64 (by omega) (by omega)]; omega
/-- A loop over places: from i on. -/
theorem rSum_l (xs : List Int) (hn : xs.length ≤ 9223372036854775807) : ∀ (d i : Nat) (v : Int) (b : Bool), i + d = xs.length → Ev (fun k => scrimref01_Sum.l0 k xs v b (i : Int)) (sumF (xs.drop i) (v, b))
  | 0, i, v, b, h => by
    refine Ev.step (f := fun _ => some (v, b)) (fun k => ?_) ?_
    · simp only [scrimref01_Sum.l0]
      rw [if_neg (by omega)]
    · rw [List.drop_of_length_le (by omega)]; exact Ev.now _
  | d + 1, i, v, b, h => by
    have ih := rSum_l xs hn d (i + 1) (addV v (xs.getD i 0)) (b && addB v (xs.getD i 0)) (by omega)
    rw [sumF_drop xs i (by omega)]
    refine Ev.step (fun k => ?_) ih
    simp only [scrimref01_Sum.l0]
    rw [if_pos (by omega), if_pos (by omega), rAdd, rd_nat, w64s (by omega) hn]
    simp only [Option.bind_some]
    cases b
    · rw [if_neg (by decide)]; rfl
    · rw [if_pos rfl]; rfl
theorem rSum (xs : List Int) (hn : xs.length ≤ 9223372036854775807) : Ev (fun k => scrimref01_Sum.f k xs) (sumV xs, sumB xs) := rSum_l xs hn xs.length 0 0 true (by omega)
/-! ### Part -/
theorem tdiv_split (s n d : Int) (hs : 0 ≤ s) (hn : 0 ≤ n) (hd : 1 ≤ d) : s / d * n + (s % d) * n / d = s * n / d := by
  have h1 : s * n = (s / d * n) * d + (s % d) * n := by
    have h := Int.mul_ediv_add_emod s d
    have h2 : s * n = (d * (s / d) + s % d) * n := by rw [h]
    rw [h2, Int.add_mul]
    congr 1
    rw [Int.mul_comm d, Int.mul_assoc, Int.mul_comm d n, ← Int.mul_assoc]
  rw [h1, Int.add_comm (s / d * n * d), Int.add_mul_ediv_right _ _ (by omega), Int.add_comm]
theorem part_core (n num den : Int) (h1 : -1099511627776 ≤ n) (h2 : n ≤ 1099511627776) (h3 : 0 ≤ num) (h4 : num ≤ 1048576) (h5 : 1 ≤ den) (h6 : den ≤ 1048576) :
    wrap64 ((wrap64 ((wrap64 (Int.tdiv (mx n (wrap64 (-n))) den)) * num)) + (wrap64 (Int.tdiv (wrap64 ((Int.tmod (mx n (wrap64 (-n))) den) * num)) den))) = (max n (-n)) * num / den ∧ (n * num).tdiv den = (if n < 0 then -((max n (-n)) * num / den) else (max n (-n)) * num / den) ∧ 0 ≤ (max n (-n)) * num / den ∧ (max n (-n)) * num / den ≤ 1152921504606846976 := by
  obtain ⟨s, hs⟩ : ∃ s, s = max n (-n) := ⟨_, rfl⟩
  have e1 : mx n (wrap64 (-n)) = s := by rw [w64 (by omega) (by omega), mx_eq, hs]
  have s0 : 0 ≤ s := by omega
  have s1 : s ≤ 1099511627776 := by omega
  rw [e1, ← hs]
  have sn : s * num ≤ 1099511627776 * 1048576 := Int.mul_le_mul s1 h4 h3 (by omega)
  have sn0 : 0 ≤ s * num := Int.mul_nonneg s0 h3
  have q0 : 0 ≤ s / den := Int.ediv_nonneg s0 (by omega)
  have q1 : s / den ≤ s := Int.ediv_le_self _ s0
  have r0 : 0 ≤ s % den := Int.emod_nonneg _ (by omega)
  have r1 : s % den < den := Int.emod_lt_of_pos _ (by omega)
  have qn0 : 0 ≤ s / den * num := Int.mul_nonneg q0 h3
  have qn1 : s / den * num ≤ 1099511627776 * 1048576 := Int.mul_le_mul (by omega) h4 h3 (by omega)
  have rn0 : 0 ≤ s % den * num := Int.mul_nonneg r0 h3
  have rn1 : s % den * num ≤ 1048576 * 1048576 := Int.mul_le_mul (by omega) h4 h3 (by omega)
  have rd0 : 0 ≤ s % den * num / den := Int.ediv_nonneg rn0 (by omega)
  have rd1 : s % den * num / den ≤ s % den * num := Int.ediv_le_self _ rn0
  have t0 : 0 ≤ s * num / den := Int.ediv_nonneg sn0 (by omega)
  have t1 : s * num / den ≤ s * num := Int.ediv_le_self _ sn0
  rw [Int.tdiv_eq_ediv_of_nonneg s0, w64 (n := s / den) (by omega) (by omega), w64 (n := s / den * num) (by omega) (by omega), Int.tmod_eq_emod_of_nonneg s0, w64 (n := s % den * num) (by omega) (by omega), Int.tdiv_eq_ediv_of_nonneg rn0, w64 (n := s % den * num / den) (by omega) (by omega), tdiv_split s num den s0 h3 h5, w64 (n := s * num / den) (by omega) (by omega)]
  refine ⟨rfl, ?_, t0, by omega⟩
  by_cases hneg : n < 0
  · rw [if_pos hneg]
    have e : n = -s := by omega
    rw [e, Int.neg_mul, Int.neg_tdiv, Int.tdiv_eq_ediv_of_nonneg sn0]
  · rw [if_neg hneg]
    have e : n = s := by omega
    rw [e, Int.tdiv_eq_ediv_of_nonneg sn0]
theorem rPart (k : Nat) (a num den : Int) : scrimref01_Part.f (k + 1) a num den = some (partV a num den, partB a num den) := by
  unfold scrimref01_Part.f
  have bad : partOk num den = false → scrimref01_Part.j0 (k + 1) a num den true = some (partV a num den, partB a num den) := fun h => by
    rw [scrimref01_Part.j0, if_pos rfl]
    unfold partV partB
    rw [h]; rfl
  by_cases h1 : num < 0
  · rw [if_pos h1]; exact bad (by simp [partOk]; omega)
  · rw [if_neg h1]
    by_cases h2 : num > 1048576
    · rw [if_pos h2]; exact bad (by simp [partOk]; omega)
    · rw [if_neg h2]
      by_cases h3 : den < 1
      · rw [if_pos h3]; exact bad (by simp [partOk]; omega)
      · rw [if_neg h3]
        by_cases h4 : den > 1048576
        · rw [decide_eq_true h4]; exact bad (by simp [partOk]; omega)
        · rw [decide_eq_false h4]
          have ho : partOk num den = true := by simp [partOk]; omega
          obtain ⟨c1, c2⟩ := clampV_bd a
          obtain ⟨p1, p2, p3, p4⟩ := part_core (clampV a) num den c1 c2 (by omega) (by omega) (by omega) (by omega)
          rw [scrimref01_Part.j0, if_neg (by decide), rClamp]
          simp only [Option.bind_some]
          rw [if_neg (by omega), p1]
          unfold partV partB
          rw [ho, if_pos rfl, p2]
          by_cases h5 : clampV a < 0
          · rw [if_pos h5, if_pos h5, w64 (by omega) (by omega), rClamp]
            simp only [Option.bind_some]
            cases clampB a
            · rw [if_neg (by decide)]; simp
            · rw [if_pos rfl]; simp
          · rw [if_neg h5, if_neg h5, rClamp]
            simp only [Option.bind_some]
            cases clampB a
            · rw [if_neg (by decide)]; simp
            · rw [if_pos rfl]; simp
/-! ### Justify -/
def jAt (l : List Int) (at0 gap : Int) : Nat → Int
  | 0 => at0
  | i + 1 => addV (addV (jAt l at0 gap i) (l.getD i 0)) gap
def jEx (l : List Int) (at0 gap : Int) (ex : Bool) : Nat → Bool
  | 0 => ex
  | i + 1 => jEx l at0 gap ex i && addB (jAt l at0 gap i) (l.getD i 0) && addB (addV (jAt l at0 gap i) (l.getD i 0)) gap
def jOut (l : List Int) (at0 gap : Int) (n : Nat) : List Int := (List.range n).map (jAt l at0 gap)
theorem jOut_succ (l : List Int) (at0 gap : Int) (n : Nat) : jOut l at0 gap (n + 1) = jOut l at0 gap n ++ [jAt l at0 gap n] := by simp [jOut, List.range_succ]
theorem jOut_len (l : List Int) (at0 gap : Int) (n : Nat) : (jOut l at0 gap n).length = n := by simp [jOut]
theorem jOut_get (l : List Int) (at0 gap : Int) (n i : Nat) (h : i < n) : (jOut l at0 gap n).getD i 0 = jAt l at0 gap i := by simp [jOut, List.getD, h]
def jV (l : List Int) (at0 gap : Int) (ex : Bool) : Res := (jOut l at0 gap l.length, jEx l at0 gap ex (l.length - 1))
theorem jl_ev (l : List Int) (hn : l.length ≤ 1000) (at0 gap : Int) (ex : Bool) : ∀ d i, i + d + 1 = l.length → Ev (fun k => flex_Justify.l0 k l (jEx l at0 gap ex i) (jAt l at0 gap i) gap (jOut l at0 gap i) l (l.length : Int) (i : Int)) (jV l at0 gap ex)
  | 0, i, h => by
    refine Ev.step (f := fun _ => some (jV l at0 gap ex)) (fun k => ?_) (Ev.now _)
    rw [flex_Justify.l0, if_pos (by omega), if_pos (by omega), if_pos (by omega), if_pos (by rw [jOut_len]; omega)]
    rw [Option.bind_some, w64s (n := l.length) (by omega) (by omega), if_pos (by omega)]
    have e : jV l at0 gap ex = (jOut l at0 gap i ++ [jAt l at0 gap i], jEx l at0 gap ex i) := by
      unfold jV
      have e2 : l.length - 1 = i := by omega
      rw [e2, show l.length = i + 1 by omega, jOut_succ]
    rw [e]
  | d + 1, i, h => by
    have ih := jl_ev l hn at0 gap ex d (i + 1) (by omega)
    refine Ev.step (fun k => ?_) ih
    rw [flex_Justify.l0, if_pos (by omega), if_pos (by omega), if_pos (by omega), if_pos (by rw [jOut_len]; omega)]
    rw [Option.bind_some, w64s (n := l.length) (by omega) (by omega), if_neg (by omega), rd_nat]
    unfold fixed_Add.f
    rw [Option.bind_some, Option.bind_some]
    dsimp only
    have eA : jAt l at0 gap (i + 1) = addV (addV (jAt l at0 gap i) (l.getD i 0)) gap := rfl
    have eE : jEx l at0 gap ex (i + 1) = (jEx l at0 gap ex i && addB (jAt l at0 gap i) (l.getD i 0) && addB (addV (jAt l at0 gap i) (l.getD i 0)) gap) := rfl
    rw [jOut_succ, eE, eA]
    generalize addB (jAt l at0 gap i) (l.getD i 0) = b1
    generalize addB (addV (jAt l at0 gap i) (l.getD i 0)) gap = b2
    cases jEx l at0 gap ex i <;> cases b1 <;> cases b2 <;> simp
theorem jj_ev (l : List Int) (hn : l.length ≤ 1000) (at0 gap : Int) (ex : Bool) : Ev (fun k => flex_Justify.j1 k l ex at0 gap) (jV l at0 gap ex) := by
  refine Ev.step (f := fun k => flex_Justify.l0 k l ex at0 gap ([] : List Int) l (l.length : Int) 0) (fun k => by rw [flex_Justify.j1]) ?_
  by_cases h : l.length = 0
  · refine Ev.step (f := fun _ => some (jV l at0 gap ex)) (fun k => ?_) (Ev.now _)
    rw [flex_Justify.l0, if_neg (by omega)]
    unfold jV
    rw [h]
    rfl
  · exact jl_ev l hn at0 gap ex (l.length - 1) 0 (by omega)
def at0V (how over : Int) : Int := if how = 1 then over / 2 else if how = 2 then over else 0
def gapV (how over : Int) (n : Nat) : Int := if how = 3 then (if 1 < n then over / ((n : Int) - 1) else 0) else 0
def overV (l : List Int) (room : Int) : Int := max (subV room (sumV l)) 0
def justV (l : List Int) (room how : Int) : Res := jV l (at0V how (overV l room)) (gapV how (overV l room) l.length) (sumB l && subB room (sumV l))
theorem overV_bd (l : List Int) (room : Int) : 0 ≤ overV l room ∧ overV l room ≤ 1099511627776 := by
  have h := clampV_bd (clampV room - clampV (sumV l))
  have e : subV room (sumV l) = clampV (clampV room - clampV (sumV l)) := rfl
  unfold overV
  rw [e]
  omega
theorem just_ev (l : List Int) (hn : l.length ≤ 1000) (room how : Int) : Ev (fun k => flex_Justify.f k l room how) (justV l room how) := by
  obtain ⟨o0, o1⟩ := overV_bd l room
  unfold justV
  have J : ∀ ex, Ev (fun k => flex_Justify.j0 k l how (overV l room) ex) (jV l (at0V how (overV l room)) (gapV how (overV l room) l.length) ex) := fun ex => by
    unfold at0V gapV
    by_cases h1 : how = 1
    · rw [if_pos h1, if_neg (by omega)]
      refine Ev.step (fun k => ?_) (jj_ev l hn (overV l room / 2) 0 ex)
      rw [flex_Justify.j0, if_pos h1, Int.tdiv_eq_ediv_of_nonneg o0, w64 (by omega) (by omega)]
    · rw [if_neg h1]
      by_cases h2 : how = 2
      · rw [if_pos h2, if_neg (by omega)]
        refine Ev.step (fun k => ?_) (jj_ev l hn (overV l room) 0 ex)
        rw [flex_Justify.j0, if_neg h1, if_pos h2]
      · rw [if_neg h2]
        by_cases h3 : how = 3
        · rw [if_pos h3]
          by_cases h4 : 1 < l.length
          · rw [if_pos h4]
            refine Ev.step (fun k => ?_) (jj_ev l hn 0 (overV l room / ((l.length : Int) - 1)) ex)
            have q0 : 0 ≤ overV l room / ((l.length : Int) - 1) := Int.ediv_nonneg o0 (by omega)
            have q1 : overV l room / ((l.length : Int) - 1) ≤ overV l room := Int.ediv_le_self _ o0
            rw [flex_Justify.j0, if_neg h1, if_neg h2, if_pos h3, if_pos (by omega), w64 (n := (l.length : Int) - 1) (by omega) (by omega), if_neg (by omega), Int.tdiv_eq_ediv_of_nonneg o0, w64 (by omega) (by omega)]
          · rw [if_neg h4]
            refine Ev.step (fun k => ?_) (jj_ev l hn 0 0 ex)
            rw [flex_Justify.j0, if_neg h1, if_neg h2, if_pos h3, if_neg (by omega)]
        · rw [if_neg h3]
          refine Ev.step (fun k => ?_) (jj_ev l hn 0 0 ex)
          rw [flex_Justify.j0, if_neg h1, if_neg h2, if_neg h3]
  refine Ev.congr (fun k => ?_) (J (sumB l && subB room (sumV l)))
  unfold flex_Justify.f fixed_Sum.f fixed_Sub.f
  simp only [Option.bind_some]
  rw [mx_eq]
  have e : max (subV room (sumV l)) 0 = overV l room := rfl
  rw [e]
  cases sumB l <;> simp
/-! ### The same numbers -/
theorem same_ev (a : List Int) (hn : a.length ≤ 1000) : Ev (fun k => scrimlaw18_same.f k a a) true := by
  have L : ∀ d i, i + d = a.length → Ev (fun k => scrimlaw18_same.l0 k a a (a.length : Int) (i : Int)) true := by
    intro d
    induction d with
    | zero =>
      intro i h
      exact Ev.step (f := fun _ => some true) (fun k => by rw [scrimlaw18_same.l0, if_neg (by omega)]) (Ev.now _)
    | succ d ih =>
      intro i h
      refine Ev.step (fun k => ?_) (ih (i + 1) (by omega))
      rw [scrimlaw18_same.l0, if_pos (by omega), if_pos (by omega), if_pos (by omega), if_pos (by omega), if_pos rfl, w64s (n := a.length) (by omega) (by omega)]
  refine Ev.congr (fun k => ?_) (L a.length 0 (by omega))
  unfold scrimlaw18_same.f
  rw [if_pos rfl]
  rfl
theorem Same_ev (a : List Int) (hn : a.length ≤ 1000) : Ev (fun k => scrimref11_Same.f k a a) true := by
  have L : ∀ d i, i + d = a.length → Ev (fun k => scrimref11_Same.l0 k a a (i : Int)) true := by
    intro d
    induction d with
    | zero =>
      intro i h
      exact Ev.step (f := fun _ => some true) (fun k => by rw [scrimref11_Same.l0, if_neg (by omega)]) (Ev.now _)
    | succ d ih =>
      intro i h
      refine Ev.step (fun k => ?_) (ih (i + 1) (by omega))
      rw [scrimref11_Same.l0, if_pos (by omega), if_pos (by omega), if_pos (by omega), if_pos rfl, w64s (n := a.length) (by omega) (by omega)]
  refine Ev.congr (fun k => ?_) (L a.length 0 (by omega))
  unfold scrimref11_Same.f
  rw [if_pos rfl]
  rfl
theorem aw1 : flex_Share.f 5 [⟨20, 0, 64, 0⟩, ⟨30, 0, 64, 0⟩] 100 = some ([45, 55], true) := by kernel_rfl
theorem aw2 : flex_Share.f 5 [⟨10, 0, 0, 576⟩, ⟨100, 0, 0, 64⟩] 50 = some ([0, 50], true) := by kernel_rfl
theorem aw3 : justV [10, 20, 30] 71 3 = ([0, 15, 40], true) := by kernel_rfl
theorem aw4 : orderV [2, 1, 2, 1] = [1, 3, 0, 2] := by kernel_rfl
theorem awake_ev : Ev (fun k => scrimlaw18_awake.f k) true := by
  unfold scrimlaw18_awake.f
  refine Ev.bind (Ev.of (fun k => flex_Share.mono _ _ k) aw1) ?_
  refine Ev.bind (Ev.of (fun k => flex_Share.mono _ _ k) aw2) ?_
  have j := just_ev [10, 20, 30] (by simp) 71 3
  rw [aw3] at j
  refine Ev.bind j ?_
  refine Ev.bind (same_ev [45, 55] (by simp)) ?_
  refine Ev.congr (fun k => if_pos rfl) ?_
  refine Ev.congr (fun k => if_pos rfl) ?_
  refine Ev.bind (same_ev [0, 50] (by simp)) ?_
  refine Ev.congr (fun k => if_pos rfl) ?_
  refine Ev.congr (fun k => if_pos rfl) ?_
  refine Ev.bind (same_ev [0, 15, 40] (by simp)) ?_
  refine Ev.congr (fun k => if_pos rfl) ?_
  refine Ev.congr (fun k => if_pos rfl) ?_
  refine Ev.bind (g := fun _ => flex_Order.f [2, 1, 2, 1]) (a := [1, 3, 0, 2]) (Ev.congr (f := fun _ => some [1, 3, 0, 2]) (fun k => by unfold flex_Order.f; rw [if_pos (by simp), aw4]) (Ev.now _)) ?_
  exact Ev.bind (Same_ev [1, 3, 0, 2] (by simp)) (Ev.now _)
theorem order_f (l : List Int) (hn : l.length ≤ 1000) : flex_Order.f l = some (orderV l) := by unfold flex_Order.f; rw [if_pos (by omega)]
end Go.Proofs.FlexP
