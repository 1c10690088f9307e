/- FlexStands's plain half; no condition beside those that each theorem states. -/
import Derived.Test.YtdifaomkaekglaaPS
import Derived.Test.YtdifaomkaekglaaHF8
namespace Go.Proofs.FlexP
open Go.RowKit Go.Proofs Go.Proofs.Prt Go.Proofs.Flx Go.Proofs.Stable Go.Proofs.Ytdifaomkaekglaa.HF Go.Proofs.YtdifaomkaekglaaW.PrintWords Go.Proofs.YtdifaomkaekglaaW.PrintLast Go.Proofs.YtdifaomkaekglaaW.PrintMore
set_option linter.unusedVariables false
set_option linter.unusedSimpArgs false
theorem addB_true {a b : Int} (h : addB a b = true) : addV a b = a + b ∧ (-1099511627776 ≤ a ∧ a ≤ 1099511627776) ∧ (-1099511627776 ≤ b ∧ b ≤ 1099511627776) ∧ (-1099511627776 ≤ a + b ∧ a + b ≤ 1099511627776) := by
  unfold addB at h
  simp only [Bool.and_eq_true] at h
  obtain ⟨⟨h1, h2⟩, h3⟩ := h
  have a1 := (clampB_iff a).1 h2
  have b1 := (clampB_iff b).1 h3
  rw [clampV_t a1.1 a1.2, clampV_t b1.1 b1.2] at h1
  have c1 := (clampB_iff _).1 h1
  refine ⟨?_, a1, b1, c1⟩
  unfold addV
  rw [clampV_t a1.1 a1.2, clampV_t b1.1 b1.2, clampV_t c1.1 c1.2]
theorem subB_true {a b : Int} (h : subB a b = true) : subV a b = a - b ∧ (-1099511627776 ≤ a ∧ a ≤ 1099511627776) ∧ (-1099511627776 ≤ b ∧ b ≤ 1099511627776) ∧ (-1099511627776 ≤ a - b ∧ a - b ≤ 1099511627776) := by
  unfold subB at h
  simp only [Bool.and_eq_true] at h
  obtain ⟨⟨h1, h2⟩, h3⟩ := h
  have a1 := (clampB_iff a).1 h2
  have b1 := (clampB_iff b).1 h3
  rw [clampV_t a1.1 a1.2, clampV_t b1.1 b1.2] at h1
  have c1 := (clampB_iff _).1 h1
  refine ⟨?_, a1, b1, c1⟩
  unfold subV
  rw [clampV_t a1.1 a1.2, clampV_t b1.1 b1.2, clampV_t c1.1 c1.2]
theorem sumF_true : ∀ (xs : List Int) (v : Int) (b : Bool), (sumF xs (v, b)).2 = true → b = true ∧ (sumF xs (v, b)).1 = v + xs.sum ∧ ∀ x ∈ xs, -1099511627776 ≤ x ∧ x ≤ 1099511627776
  | [], v, b, h => ⟨h, by simp [sumF], fun x hx => by cases hx⟩
  | x :: r, v, b, h => by
    rw [sumF] at h ⊢
    obtain ⟨h1, h2, h3⟩ := sumF_true r _ _ h
    simp only [Bool.and_eq_true] at h1
    obtain ⟨e, _, hx, _⟩ := addB_true h1.2
    refine ⟨h1.1, by rw [h2, List.sum_cons, e]; omega, fun y hy => ?_⟩
    rcases List.mem_cons.1 hy with rfl | hy
    · exact hx
    · exact h3 y hy
theorem sumB_true {xs : List Int} (h : sumB xs = true) : sumV xs = xs.sum ∧ ∀ x ∈ xs, -1099511627776 ≤ x ∧ x ≤ 1099511627776 := by
  obtain ⟨_, h2, h3⟩ := sumF_true xs 0 true h
  exact ⟨by unfold sumV; rw [h2]; omega, h3⟩
def psum (l : List Int) (i : Nat) : Int := (l.take i).sum
theorem psum_succ (l : List Int) (i : Nat) (h : i < l.length) : psum l (i + 1) = psum l i + l.getD i 0 := by
  unfold psum
  rw [List.take_succ_eq_append_getElem h, List.sum_append]
  simp [List.getD, h]
theorem psum_all (l : List Int) : psum l l.length = l.sum := by unfold psum; rw [List.take_length]
theorem jEx_true {l : List Int} {at0 gap : Int} {ex : Bool} : ∀ i, i < l.length → jEx l at0 gap ex i = true → ex = true ∧ jAt l at0 gap i = at0 + psum l i + gap * (i : Int)
  | 0, _, h => ⟨h, by simp [jAt, psum]⟩
  | i + 1, hi, h => by
    rw [jEx] at h
    simp only [Bool.and_eq_true] at h
    obtain ⟨⟨h1, h2⟩, h3⟩ := h
    obtain ⟨e1, e2⟩ := jEx_true i (by omega) h1
    obtain ⟨a1, _⟩ := addB_true h2
    obtain ⟨a2, _⟩ := addB_true h3
    refine ⟨e1, ?_⟩
    rw [jAt, a2, a1, e2, psum_succ l i (by omega)]
    have : gap * ((i + 1 : Nat) : Int) = gap * (i : Int) + gap := by rw [Int.natCast_add, Int.mul_add]; simp
    omega
theorem jEx_le {l : List Int} {at0 gap : Int} {ex : Bool} : ∀ d i, jEx l at0 gap ex (i + d) = true → jEx l at0 gap ex i = true
  | 0, _, h => h
  | d + 1, i, h => by
    rw [← Nat.add_assoc, jEx] at h
    simp only [Bool.and_eq_true] at h
    exact jEx_le d i h.1.1
/-- What counts of the lengths. -/
def psumM (l : List Int) : Nat → Int
  | 0 => 0
  | i + 1 => psumM l i + (if l.getD i 0 ≤ 1099511627776 then l.getD i 0 else 0)
theorem psumM_bd (l : List Int) (h : ∀ i, i < l.length → 0 ≤ l.getD i 0) : ∀ i, i ≤ l.length → 0 ≤ psumM l i ∧ psumM l i ≤ 1099511627776 * (i : Int)
  | 0, _ => by simp [psumM]
  | i + 1, hi => by
    have h1 := psumM_bd l h i (by omega)
    have h2 := h i (by omega)
    rw [psumM]
    split <;> omega
theorem psumM_eq (l : List Int) (h : ∀ x ∈ l, x ≤ 1099511627776) : ∀ i, i ≤ l.length → psumM l i = psum l i
  | 0, _ => by simp [psumM, psum]
  | i + 1, hi => by
    have hm : l.getD i 0 ∈ l := by simp [List.getD, show i < l.length by omega]
    rw [psumM, psumM_eq l h i (by omega), psum_succ l i (by omega), if_pos (h _ hm)]
theorem st0 (l : List Int) (hn : l.length ≤ 120) (room how : Int) (out : List Int) (e : Bool)
    (H : (∀ i, i < l.length → 0 ≤ l.getD i 0) → Ev (fun k => scrimlaw18_FlexStands.j1 k l room how out (psumM l l.length) (if e = true then ((l.length : Int) == 0) else true)) true) :
    ∀ d i, i + d = l.length → (∀ j, j < i → 0 ≤ l.getD j 0) → Ev (fun k => scrimlaw18_FlexStands.l0 k l room how out e (psumM l i) l (l.length : Int) (i : Int)) true
  | 0, i, h, hp => by
    have ei : i = l.length := by omega
    subst ei
    refine Ev.step (fun k => ?_) (H hp)
    rw [scrimlaw18_FlexStands.l0, if_neg (Int.lt_irrefl _)]
    cases e
    · rw [if_neg (by decide), if_neg (by decide)]
    · rw [if_pos rfl, if_pos rfl]
  | d + 1, i, h, hp => by
    have hi : i < l.length := by omega
    by_cases hx : l.getD i 0 < 0
    · refine Ev.step (f := fun _ => some true) (fun k => ?_) (Ev.now _)
      rw [scrimlaw18_FlexStands.l0, if_pos (by omega), if_pos (by omega), if_pos (by omega), rd_nat, if_pos hx]
    · have hp2 : ∀ j, j < i + 1 → 0 ≤ l.getD j 0 := fun j hj => by
        by_cases e : j = i
        · rw [e]; omega
        · exact hp j (by omega)
      have ih := st0 l hn room how out e H d (i + 1) (by omega) hp2
      have bd : 0 ≤ psumM l i ∧ psumM l i ≤ 1099511627776 * (i : Int) := by
        have gen : ∀ q, q ≤ i → 0 ≤ psumM l q ∧ psumM l q ≤ 1099511627776 * (q : Int) := by
          intro q
          induction q with
          | zero => intro _; simp [psumM]
          | succ q ihq =>
            intro hq
            have h1 := ihq (by omega)
            have h2 := hp q (by omega)
            rw [psumM]
            split <;> omega
        exact gen i (Nat.le_refl _)
      refine Ev.step (fun k => ?_) ih
      rw [scrimlaw18_FlexStands.l0, if_pos (by omega), if_pos (by omega), if_pos (by omega), rd_nat, if_neg hx, w64s hi (by omega), psumM]
      by_cases h2 : l.getD i 0 ≤ 1099511627776
      · rw [if_pos h2, if_pos h2, w64 (by omega) (by omega)]
      · rw [if_neg h2, if_neg h2, Int.add_zero]
/-- What is known where all is exact. -/
structure Exact (l : List Int) (room how : Int) : Prop where
  rm : -1099511627776 ≤ room ∧ room ≤ 1099511627776
  sm : -1099511627776 ≤ l.sum ∧ l.sum ≤ 1099511627776
  ov : overV l room = max (room - l.sum) 0
  each : ∀ x ∈ l, x ≤ 1099511627776
  at_ : ∀ i, i < l.length → jAt l (at0V how (overV l room)) (gapV how (overV l room) l.length) i = at0V how (overV l room) + psum l i + gapV how (overV l room) l.length * (i : Int)
  bd : ∀ i, i < l.length → -1099511627776 ≤ jAt l (at0V how (overV l room)) (gapV how (overV l room) l.length) i ∧ jAt l (at0V how (overV l room)) (gapV how (overV l room) l.length) i ≤ 1099511627776
theorem exact_of (l : List Int) (room how : Int) (he : (justV l room how).2 = true) (hl : 0 < l.length) : Exact l room how := by
  have h1 : jEx l (at0V how (overV l room)) (gapV how (overV l room) l.length) (sumB l && subB room (sumV l)) (l.length - 1) = true := he
  have all : ∀ i, i < l.length → jEx l (at0V how (overV l room)) (gapV how (overV l room) l.length) (sumB l && subB room (sumV l)) i = true := fun i hi => by
    have q := jEx_le (l := l) (at0 := at0V how (overV l room)) (gap := gapV how (overV l room) l.length) (ex := (sumB l && subB room (sumV l))) (l.length - 1 - i) i
    rw [show i + (l.length - 1 - i) = l.length - 1 by omega] at q
    exact q h1
  have h0 := (jEx_true 0 hl (all 0 hl)).1
  simp only [Bool.and_eq_true] at h0
  obtain ⟨s1, s2⟩ := sumB_true h0.1
  obtain ⟨d1, d2, d3, d4⟩ := subB_true h0.2
  obtain ⟨o0, o1⟩ := overV_bd l room
  refine ⟨d2, by rw [← s1]; exact d3, by unfold overV; rw [d1, s1], fun x hx => (s2 x hx).2, fun i hi => (jEx_true i hi (all i hi)).2, fun i hi => ?_⟩
  cases i with
  | zero =>
    have e : jAt l (at0V how (overV l room)) (gapV how (overV l room) l.length) 0 = at0V how (overV l room) := rfl
    rw [e]
    unfold at0V
    split
    · omega
    · split <;> omega
  | succ i => exact clampV_bd _
theorem gap_le (how : Int) (l : List Int) (room : Int) (hl : 0 < l.length) : 0 ≤ gapV how (overV l room) l.length * ((l.length - 1 : Nat) : Int) ∧ gapV how (overV l room) l.length * ((l.length - 1 : Nat) : Int) ≤ overV l room := by
  obtain ⟨o0, o1⟩ := overV_bd l room
  unfold gapV
  split
  · split
    · rename_i h3 h4
      have e : ((l.length - 1 : Nat) : Int) = (l.length : Int) - 1 := by omega
      rw [e]
      have d0 : 0 ≤ overV l room / ((l.length : Int) - 1) := Int.ediv_nonneg o0 (by omega)
      exact ⟨Int.mul_nonneg d0 (by omega), Int.ediv_mul_le _ (by omega)⟩
    · simp; exact o0
  · simp; exact o0
theorem st1 (l : List Int) (hn : l.length ≤ 120) (room how : Int) (X : Exact l room how) (z : Int) (FIN : Ev (fun k => if how = 1 then (if 0 < ((justV l room how).1.length : Int) then (if (rd (justV l room how).1 0) = (wrap64 (Int.tdiv (overV l room) 2)) then (if (overV l room) = 0 then (some true) else (if z ≤ room then (some (decide ((wrap64 ((wrap64 (room - z)) - (rd (justV l room how).1 0))) ≤ 1))) else (some false))) else (some false)) else (none)) else (if how = 2 then (if 0 < ((justV l room how).1.length : Int) then (if (rd (justV l room how).1 0) = (overV l room) then (if (overV l room) = 0 then (some true) else (some (z == room))) else (some false)) else (none)) else (if 0 < ((justV l room how).1.length : Int) then (if (rd (justV l room how).1 0) = 0 then (if (overV l room) = 0 then (some true) else (some (decide (z ≤ room)))) else (some false)) else (none)))) true) :
    ∀ d i, i + 1 + d = l.length → Ev (fun k => scrimlaw18_FlexStands.l1 k l room how (justV l room how).1 (overV l room) ((l.length - 1 : Nat) : Int) z ((i + 1 : Nat) : Int)) true
  | 0, i, h => by
    refine Ev.step (fun k => ?_) FIN
    rw [scrimlaw18_FlexStands.l1, if_neg (by omega)]
  | d + 1, i, h => by
    have ih := st1 l hn room how X z FIN d (i + 1) (by omega)
    have hl : (justV l room how).1.length = l.length := by unfold justV jV; rw [jOut_len]
    have hi : i + 1 < l.length := by omega
    have e1 : wrap64 (((i + 1 : Nat) : Int) - 1) = (i : Int) := by rw [w64 (by omega) (by omega)]; omega
    have g1 : (justV l room how).1.getD (i + 1) 0 = jAt l (at0V how (overV l room)) (gapV how (overV l room) l.length) (i + 1) := jOut_get _ _ _ _ _ hi
    have g0 : (justV l room how).1.getD i 0 = jAt l (at0V how (overV l room)) (gapV how (overV l room) l.length) i := jOut_get _ _ _ _ _ (by omega)
    have b1 := X.bd (i + 1) hi
    have b0 := X.bd i (by omega)
    have c1 := X.at_ (i + 1) hi
    have c0 := X.at_ i (by omega)
    have hm : l.getD i 0 ∈ l := by simp [List.getD, show i < l.length by omega]
    have x1 := X.each _ hm
    have ps := psum_succ l i (by omega)
    have gm : gapV how (overV l room) l.length * ((i + 1 : Nat) : Int) = gapV how (overV l room) l.length * (i : Int) + gapV how (overV l room) l.length := by rw [Int.natCast_add, Int.mul_add]; simp
    have step : jAt l (at0V how (overV l room)) (gapV how (overV l room) l.length) (i + 1) - jAt l (at0V how (overV l room)) (gapV how (overV l room) l.length) i - l.getD i 0 = gapV how (overV l room) l.length := by omega
    obtain ⟨o0, o1⟩ := overV_bd l room
    have gb : 0 ≤ gapV how (overV l room) l.length ∧ gapV how (overV l room) l.length ≤ 1099511627776 := by
      unfold gapV
      split
      · split
        · exact ⟨Int.ediv_nonneg o0 (by omega), Int.le_trans (Int.ediv_le_self _ o0) o1⟩
        · omega
      · omega
    generalize jAt l (at0V how (overV l room)) (gapV how (overV l room) l.length) (i + 1) = p1 at *
    generalize jAt l (at0V how (overV l room)) (gapV how (overV l room) l.length) i = p0 at *
    have W : wrap64 (wrap64 (p1 - p0) - l.getD i 0) = gapV how (overV l room) l.length := by
      rw [w64 (n := p1 - p0) (by omega) (by omega), w64 (by omega) (by omega)]; exact step
    refine Ev.step (fun k => ?_) ih
    rw [scrimlaw18_FlexStands.l1, if_pos (by omega), if_pos (by omega), if_pos (by rw [hl]; omega), e1, if_pos (by omega), if_pos (by rw [hl]; omega), if_pos (by omega), rd_nat, rd_nat, rd_nat, g1, g0, W, w64s (n := l.length) hi (by omega)]
    by_cases h3 : how = 3
    · have ge : gapV how (overV l room) l.length = overV l room / ((l.length : Int) - 1) := by unfold gapV; rw [if_pos h3, if_pos (by omega)]
      have eL : ((l.length - 1 : Nat) : Int) = (l.length : Int) - 1 := by omega
      have q0 : 0 ≤ overV l room / ((l.length : Int) - 1) := Int.ediv_nonneg o0 (by omega)
      have q1 : overV l room / ((l.length : Int) - 1) ≤ overV l room := Int.ediv_le_self _ o0
      rw [if_pos h3, if_neg (by omega), if_pos (by rw [ge, eL, Int.tdiv_eq_ediv_of_nonneg o0, w64 (by omega) (by omega)])]
    · have ge : gapV how (overV l room) l.length = 0 := by unfold gapV; rw [if_neg h3]
      rw [if_neg h3, if_pos ge]
theorem stands_last (l : List Int) (hn : l.length ≤ 120) (room how : Int) (he : (justV l room how).2 = true) (h0 : 0 < l.length) (hp : ∀ i, i < l.length → 0 ≤ l.getD i 0) :
    Ev (fun k => scrimlaw18_FlexStands.j1 k l room how (justV l room how).1 (psumM l l.length) false) true := by
  have X := exact_of l room how he h0
  have hl : (justV l room how).1.length = l.length := by unfold justV jV; rw [jOut_len]
  have eM : psumM l l.length = l.sum := by rw [psumM_eq l X.each l.length (Nat.le_refl _), psum_all]
  have o := X.ov
  obtain ⟨r1, r2⟩ := X.rm
  obtain ⟨s1, s2⟩ := X.sm
  obtain ⟨o0, o1⟩ := overV_bd l room
  have e1 : wrap64 ((l.length : Int) - 1) = ((l.length - 1 : Nat) : Int) := by rw [w64 (by omega) (by omega)]; omega
  have gL : (justV l room how).1.getD (l.length - 1) 0 = jAt l (at0V how (overV l room)) (gapV how (overV l room) l.length) (l.length - 1) := jOut_get _ _ _ _ _ (by omega)
  have g0 : rd (justV l room how).1 0 = at0V how (overV l room) := by
    have q : (justV l room how).1.getD 0 0 = jAt l (at0V how (overV l room)) (gapV how (overV l room) l.length) 0 := jOut_get _ _ _ _ _ h0
    exact q
  have bL := X.bd (l.length - 1) (by omega)
  have cL := X.at_ (l.length - 1) (by omega)
  have hm : l.getD (l.length - 1) 0 ∈ l := by simp [List.getD, show l.length - 1 < l.length by omega]
  have xL := X.each _ hm
  have pL := hp (l.length - 1) (by omega)
  have ps := psum_succ l (l.length - 1) (by omega)
  rw [show l.length - 1 + 1 = l.length by omega, psum_all] at ps
  obtain ⟨k0, k1⟩ := gap_le how l room h0
  obtain ⟨z, hz⟩ : ∃ z, z = jAt l (at0V how (overV l room)) (gapV how (overV l room) l.length) (l.length - 1) + l.getD (l.length - 1) 0 := ⟨_, rfl⟩
  have hzv : z = at0V how (overV l room) + l.sum + gapV how (overV l room) l.length * ((l.length - 1 : Nat) : Int) := by omega
  have W : wrap64 (jAt l (at0V how (overV l room)) (gapV how (overV l room) l.length) (l.length - 1) + l.getD (l.length - 1) 0) = z := by rw [w64 (by omega) (by omega), hz]
  have FIN := st1 l hn room how X z (Ev.congr (f := fun _ => some true) (fun k => by
    rw [g0]
    by_cases h1 : how = 1
    · have ga : gapV how (overV l room) l.length = 0 := by unfold gapV; rw [if_neg (by omega)]
      have aa : at0V how (overV l room) = overV l room / 2 := by unfold at0V; rw [if_pos h1]
      rw [ga, Int.zero_mul] at hzv
      rw [if_pos h1, if_pos (by omega), aa, Int.tdiv_eq_ediv_of_nonneg o0, w64 (n := overV l room / 2) (by omega) (by omega), if_pos rfl]
      by_cases hz0 : overV l room = 0
      · rw [if_pos hz0]
      · rw [if_neg hz0, if_pos (by omega), w64 (n := room - z) (by omega) (by omega), w64 (by omega) (by omega), decide_eq_true (by omega)]
    · rw [if_neg h1]
      by_cases h2 : how = 2
      · have ga : gapV how (overV l room) l.length = 0 := by unfold gapV; rw [if_neg (by omega)]
        have aa : at0V how (overV l room) = overV l room := by unfold at0V; rw [if_neg h1, if_pos h2]
        rw [ga, Int.zero_mul] at hzv
        rw [if_pos h2, if_pos (by omega), aa, if_pos rfl]
        by_cases hz0 : overV l room = 0
        · rw [if_pos hz0]
        · rw [if_neg hz0]
          have ez : z = room := by omega
          rw [ez, beq_self_eq_true]
      · have aa : at0V how (overV l room) = 0 := by unfold at0V; rw [if_neg h1, if_neg h2]
        rw [if_neg h2, if_pos (by omega), aa, if_pos rfl]
        by_cases hz0 : overV l room = 0
        · rw [if_pos hz0]
        · rw [if_neg hz0, decide_eq_true (by omega)]) (Ev.now _)) (l.length - 1) 0 (by omega)
  refine Ev.step (fun k => ?_) FIN
  rw [scrimlaw18_FlexStands.j1, if_neg (by decide), hl, e1, if_pos (by omega), if_pos (by omega), if_pos (by omega), eM, mx_eq, rd_nat, rd_nat, gL, W, w64 (n := room - l.sum) (by omega) (by omega), ← o]
  rfl
theorem FlexStands_ev (l : List Int) (room how : Int) : Ev (fun k => scrimlaw18_FlexStands.f k l room how) true := by
  unfold scrimlaw18_FlexStands.f
  refine Ev.bind awake_ev ?_
  refine Ev.congr (fun k => if_pos rfl) ?_
  by_cases h1 : (l.length : Int) > 120
  · exact Ev.congr (f := fun _ => some true) (fun k => if_pos h1) (Ev.now _)
  · refine Ev.congr (fun k => if_neg h1) ?_
    refine Ev.bind (just_ev l (by omega) room how) ?_
    have hl : (justV l room how).1.length = l.length := by unfold justV jV; rw [jOut_len]
    refine Ev.congr (fun k => if_pos (by rw [hl])) ?_
    refine st0 l (by omega) room how _ _ (fun hp => ?_) l.length 0 (by omega) (fun j hj => by omega)
    have Z : ∀ b : Bool, b = true → Ev (fun k => scrimlaw18_FlexStands.j1 k l room how (justV l room how).1 (psumM l l.length) b) true := fun b hb => by
      subst hb
      exact Ev.step (f := fun _ => some true) (fun k => by rw [scrimlaw18_FlexStands.j1, if_pos rfl]) (Ev.now _)
    by_cases he : (justV l room how).2 = true
    · rw [if_pos he]
      by_cases hz : l.length = 0
      · exact Z _ (by rw [hz]; rfl)
      · have hb : ((l.length : Int) == 0) = false := beq_eq_false_iff_ne.2 (by omega)
        rw [hb]
        exact stands_last l (by omega) room how he (by omega) hp
    · rw [if_neg he]
      exact Z true rfl
end Go.Proofs.FlexP
