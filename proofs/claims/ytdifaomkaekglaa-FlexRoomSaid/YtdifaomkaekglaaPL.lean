/- What Share gives, in sums, when it is exact; FlexRoom's plain half; no condition beside those that each theorem states. -/
import Derived.Test.YtdifaomkaekglaaPK
import Derived.Test.YtdifaomkaekglaaHR3
set_option linter.unusedVariables false
set_option linter.unusedSimpArgs false
namespace Go.Proofs.FlexR
open Go.RowKit Go.Proofs Go.Proofs.Prt Go.Proofs.Flx Go.Proofs.Stable Go.Proofs.FlexQ Go.Proofs.Ytdifaomkaekglaa.HR Go.Proofs.YtdifaomkaekglaaW.PrintWords Go.Proofs.YtdifaomkaekglaaW.PrintLast Go.Proofs.YtdifaomkaekglaaW.PrintMore
theorem addB_true {a b : Int} (h : addB a b = true) : addV a b = a + b ∧ (-1099511627776 ≤ a ∧ a ≤ 1099511627776) ∧ (-1099511627776 ≤ b ∧ b ≤ 1099511627776) ∧ (-1099511627776 ≤ a + b ∧ a + b ≤ 1099511627776) := by
  unfold addB at h
  simp only [Bool.and_eq_true] at h
  obtain ⟨⟨h1, h2⟩, h3⟩ := h
  have a1 := (clampB_iff a).1 h2
  have b1 := (clampB_iff b).1 h3
  rw [clampV_t a1.1 a1.2, clampV_t b1.1 b1.2] at h1
  have c1 := (clampB_iff _).1 h1
  refine ⟨?_, a1, b1, c1⟩
  unfold addV
  rw [clampV_t a1.1 a1.2, clampV_t b1.1 b1.2, clampV_t c1.1 c1.2]
theorem subB_true {a b : Int} (h : subB a b = true) : subV a b = a - b ∧ (-1099511627776 ≤ a ∧ a ≤ 1099511627776) ∧ (-1099511627776 ≤ b ∧ b ≤ 1099511627776) ∧ (-1099511627776 ≤ a - b ∧ a - b ≤ 1099511627776) := by
  unfold subB at h
  simp only [Bool.and_eq_true] at h
  obtain ⟨⟨h1, h2⟩, h3⟩ := h
  have a1 := (clampB_iff a).1 h2
  have b1 := (clampB_iff b).1 h3
  rw [clampV_t a1.1 a1.2, clampV_t b1.1 b1.2] at h1
  have c1 := (clampB_iff _).1 h1
  refine ⟨?_, a1, b1, c1⟩
  unfold subV
  rw [clampV_t a1.1 a1.2, clampV_t b1.1 b1.2, clampV_t c1.1 c1.2]
theorem sumF_true : ∀ (xs : List Int) (v : Int) (b : Bool), (sumF xs (v, b)).2 = true → b = true ∧ (sumF xs (v, b)).1 = v + xs.sum ∧ ∀ x ∈ xs, -1099511627776 ≤ x ∧ x ≤ 1099511627776
  | [], v, b, h => ⟨h, by simp [sumF], fun x hx => by cases hx⟩
  | x :: r, v, b, h => by
    rw [sumF] at h ⊢
    obtain ⟨h1, h2, h3⟩ := sumF_true r _ _ h
    simp only [Bool.and_eq_true] at h1
    obtain ⟨e, _, hx, _⟩ := addB_true h1.2
    refine ⟨h1.1, by rw [h2, List.sum_cons, e]; omega, fun y hy => ?_⟩
    rcases List.mem_cons.1 hy with rfl | hy
    · exact hx
    · exact h3 y hy
theorem sumB_true {xs : List Int} (h : sumB xs = true) : sumV xs = xs.sum ∧ ∀ x ∈ xs, -1099511627776 ≤ x ∧ x ≤ 1099511627776 := by
  obtain ⟨_, h2, h3⟩ := sumF_true xs 0 true h
  exact ⟨by unfold sumV; rw [h2]; omega, h3⟩
/-- a sum up to k -/
def sm (f : Nat → Int) : Nat → Int
  | 0 => 0
  | k + 1 => sm f k + f k
theorem sm_le {f g : Nat → Int} : ∀ n, (∀ i, i < n → f i ≤ g i) → sm f n ≤ sm g n
  | 0, _ => Int.le_refl _
  | n + 1, h => by
    have := sm_le n (fun i hi => h i (by omega))
    have := h n (by omega)
    simp only [sm]; omega
theorem sm_congr {f g : Nat → Int} : ∀ n, (∀ i, i < n → f i = g i) → sm f n = sm g n
  | 0, _ => rfl
  | n + 1, h => by rw [sm, sm, sm_congr n (fun i hi => h i (by omega)), h n (by omega)]
theorem sm_mul (f : Nat → Int) (c : Int) : ∀ n, sm (fun i => f i * c) n = sm f n * c
  | 0 => by simp [sm]
  | n + 1 => by simp only [sm]; rw [sm_mul f c n, Int.add_mul]
theorem sm_add (f g : Nat → Int) : ∀ n, sm (fun i => f i + g i) n = sm f n + sm g n
  | 0 => rfl
  | n + 1 => by simp only [sm]; rw [sm_add f g n]; omega
theorem sm_const (c : Int) : ∀ n : Nat, sm (fun _ => c) n = (n : Int) * c
  | 0 => by simp [sm]
  | n + 1 => by rw [sm, sm_const c n, show ((n + 1 : Nat) : Int) = (n : Int) + 1 by omega, Int.add_mul, Int.one_mul]
theorem sm_bd {f : Nat → Int} {B : Int} : ∀ n, (∀ i, i < n → 0 ≤ f i ∧ f i ≤ B) → 0 ≤ sm f n ∧ sm f n ≤ (n : Int) * B
  | 0, _ => by simp [sm]
  | n + 1, h => by
    have a := sm_bd n (fun i hi => h i (by omega))
    have b := h n (by omega)
    rw [show ((n + 1 : Nat) : Int) = (n : Int) + 1 by omega, Int.add_mul, Int.one_mul]
    simp only [sm]; omega
theorem sm_lt {f g : Nat → Int} (j : Nat) : ∀ n, (∀ i, i < n → f i ≤ g i) → j < n → f j < g j → sm f n < sm g n
  | 0, _, h, _ => absurd h (by omega)
  | n + 1, h, hj, hl => by
    have b := h n (by omega)
    simp only [sm]
    by_cases e : j = n
    · have := sm_le n (fun i hi => h i (by omega))
      subst e; omega
    · have := sm_lt j n (fun i hi => h i (by omega)) (by omega) hl
      omega
theorem parts_sm (its : List It) (zs : List Int) (fs : List Bool) : ∀ n, (partsTo its zs fs n).sum = sm (fun i => (its.getD i zIt).2.1 + (if fs.getD i false = true then zs.getD i 0 else (its.getD i zIt).1)) n
  | 0 => rfl
  | n + 1 => by
    rw [partsTo, List.sum_append, parts_sm its zs fs n, sm]
    unfold part1
    simp only [List.sum_cons, List.sum_nil, Int.add_zero]
theorem all_sm (pr : It → Int) (its : List It) (fs : List Bool) : ∀ n, allTo pr its fs n = sm (fun i => if fs.getD i false = true then 0 else pr (its.getD i zIt)) n
  | 0 => rfl
  | n + 1 => by rw [allTo, all_sm pr its fs n, sm]
theorem rest_exact {its : List It} {zs : List Int} {fs : List Bool} {room : Int} (h : restB its zs fs room = true) :
    restV its zs fs room = room - sm (fun i => (its.getD i zIt).2.1 + (if fs.getD i false = true then zs.getD i 0 else (its.getD i zIt).1)) its.length ∧ -1099511627776 ≤ room ∧ room ≤ 1099511627776 := by
  unfold restB at h
  rw [Bool.and_eq_true] at h
  obtain ⟨e, _⟩ := sumB_true h.1
  obtain ⟨e2, hr, _⟩ := subB_true h.2
  unfold restV
  rw [e2, e, parts_sm]
  exact ⟨rfl, hr⟩
/-- one share, when exact -/
theorem shr1_true {pr : It → Int} {much all : Int} {x : It} (hm : 0 ≤ much) (h0 : 0 ≤ pr x) (h : (shr1 pr much all x).2 = true) : (shr1 pr much all x).1 = much * pr x / max all 64 := by
  unfold shr1 at h ⊢
  by_cases c : pr x > 0
  · rw [if_pos c] at h ⊢
    dsimp only at h ⊢
    unfold partB at h
    simp only [Bool.and_eq_true] at h
    obtain ⟨⟨h1, h2⟩, h3⟩ := h
    have a := (clampB_iff _).1 h3
    have b := (clampB_iff _).1 h2
    unfold partV
    rw [if_pos h1, clampV_t b.1 b.2, clampV_t a.1 a.2, Int.tdiv_eq_ediv_of_nonneg (Int.mul_nonneg hm h0)]
  · rw [if_neg c]
    have e : pr x = 0 := by omega
    rw [e, Int.mul_zero, Int.zero_ediv]
def flo (pr : It → Int) (much all : Int) (its : List It) (fs : List Bool) (i : Nat) : Int := if fs.getD i false = true then 0 else (shr1 pr much all (its.getD i zIt)).1
theorem flo_le {pr : It → Int} {much : Int} {its : List It} {fs : List Bool} {n : Nat} (hm : 0 ≤ much) (hp : ∀ i, 0 ≤ pr (its.getD i zIt)) (hb : ∀ j, j < n → fs.getD j false = false → (shr1 pr much (allTo pr its fs n) (its.getD j zIt)).2 = true) :
    sm (flo pr much (allTo pr its fs n) its fs) n ≤ much := by
  obtain ⟨M, eM⟩ : ∃ M, M = max (allTo pr its fs n) 64 := ⟨_, rfl⟩
  have hM : 0 < M := by omega
  have e1 : sm (fun i => flo pr much (allTo pr its fs n) its fs i * M) n ≤ sm (fun i => (if fs.getD i false = true then 0 else pr (its.getD i zIt)) * much) n := sm_le n fun i hi => by
    (try dsimp only)
    unfold flo
    cases hf : fs.getD i false
    · rw [if_neg (by decide), if_neg (by decide), shr1_true hm (hp i) (hb i hi hf), ← eM, Int.mul_comm (pr _)]
      exact Int.ediv_mul_le _ (by omega)
    · rw [if_pos rfl, if_pos rfl, Int.zero_mul, Int.zero_mul]; exact Int.le_refl _
  rw [sm_mul, sm_mul, ← all_sm] at e1
  have e2 : allTo pr its fs n * much ≤ M * much := Int.mul_le_mul_of_nonneg_right (by omega) hm
  refine Int.le_of_mul_le_mul_right (a := M) ?_ hM
  rw [Int.mul_comm much M]
  omega
theorem flo_gt {pr : It → Int} {much : Int} {its : List It} {fs : List Bool} {n : Nat} (hm : 0 ≤ much) (hn : 0 < n) (hp : ∀ i, 0 ≤ pr (its.getD i zIt)) (hb : ∀ j, j < n → fs.getD j false = false → (shr1 pr much (allTo pr its fs n) (its.getD j zIt)).2 = true)
    (h64 : 64 ≤ allTo pr its fs n) : much < sm (flo pr much (allTo pr its fs n) its fs) n + (n : Int) := by
  obtain ⟨M, eM⟩ : ∃ M, M = max (allTo pr its fs n) 64 := ⟨_, rfl⟩
  have eA : allTo pr its fs n = M := by omega
  have hM : 0 < M := by omega
  have e1 : sm (fun i => (if fs.getD i false = true then 0 else pr (its.getD i zIt)) * much) n < sm (fun i => (flo pr much (allTo pr its fs n) its fs i + 1) * M) n := by
    have each : ∀ i, i < n → (if fs.getD i false = true then 0 else pr (its.getD i zIt)) * much < (flo pr much (allTo pr its fs n) its fs i + 1) * M := fun i hi => by
      unfold flo
      cases hf : fs.getD i false
      · rw [if_neg (by decide), if_neg (by decide), shr1_true hm (hp i) (hb i hi hf), ← eM, Int.mul_comm (pr _)]
        exact Int.lt_ediv_add_one_mul_self _ hM
      · rw [if_pos rfl, if_pos rfl, Int.zero_mul, Int.zero_add, Int.one_mul]; exact hM
    exact sm_lt 0 n (fun i hi => Int.le_of_lt (each i hi)) hn (each 0 hn)
  rw [sm_mul, sm_mul, ← all_sm, sm_add, sm_const, eA, Int.mul_one] at e1
  rw [eA]
  exact Int.lt_of_mul_lt_mul_left (a := M) (by rw [Int.mul_comm M (_ + _)]; exact e1) (by omega)
theorem shareL_exact (its : List It) (room : Int) : ∀ g zs fs r res, zs.length = its.length → fs.length = its.length → shareL its room g zs fs r = some res → res.2 = true → r = false
  | 0, _, _, _, _, _, _, h, _ => by simp [shareL] at h
  | g + 1, zs, fs, r, res, lz, lf, h, he => by
    rw [shareL] at h
    by_cases h0 : 0 ≤ restV its zs fs room
    · rw [if_pos h0] at h
      injection h with h
      rw [← h] at he
      dsimp only at he
      obtain ⟨_, g2⟩ := givN_spec false prG (restV its zs fs room) (allTo prG its fs its.length) its fs its.length 0 zs (r || !restB its zs fs room) (by omega)
      have := (g2 (by simpa using he)).1
      simp at this
      exact this.1
    · rw [if_neg h0] at h
      dsimp only at h
      obtain ⟨_, g2⟩ := givN_spec true prS (-restV its zs fs room) (allTo prS its fs its.length) its fs its.length 0 zs (r || !restB its zs fs room) (by omega)
      have gl := givN_len true prS (-restV its zs fs room) (allTo prS its fs its.length) its fs its.length 0 (zs, r || !restB its zs fs room)
      generalize givN true prS (-restV its zs fs room) (allTo prS its fs its.length) its fs its.length 0 (zs, r || !restB its zs fs room) = gs at h gl g2
      obtain ⟨zs1, r1⟩ := gs
      dsimp only at h gl g2
      have fl := frzN_len zs1.length 0 (zs1, fs, false)
      generalize frzN zs1.length 0 (zs1, fs, false) = fz at h fl
      obtain ⟨zs2, fs2, b2⟩ := fz
      dsimp only at h fl
      have e1 : r1 = false := by
        cases b2
        · rw [if_neg (by decide)] at h
          injection h with h
          rw [← h] at he
          simpa using he
        · rw [if_pos rfl] at h
          exact shareL_exact its room g zs2 fs2 r1 res (by omega) (by omega) h he
      have := (g2 e1).1
      simp at this
      exact this.1
theorem room_less (its : List It) (S : Smalls its) (room : Int) : ∀ g zs fs r res, zs.length = its.length → fs.length = its.length → (∀ i, fs.getD i false = true → zs.getD i 0 = 0) →
    room < sm (fun i => (its.getD i zIt).2.1 + (if fs.getD i false = true then 0 else (its.getD i zIt).1)) its.length → shareL its room g zs fs r = some res → res.2 = true →
    (∀ i, i < its.length → 0 ≤ res.1.getD i 0 ∧ res.1.getD i 0 ≤ (its.getD i zIt).1) ∧ room ≤ sm (fun i => res.1.getD i 0) its.length + sm (fun i => (its.getD i zIt).2.1) its.length
  | 0, _, _, _, _, _, _, _, _, h, _ => by simp [shareL] at h
  | g + 1, zs, fs, r, res, lz, lf, hz, hr, h, he => by
    have sums : sm (fun i => (its.getD i zIt).2.1 + (if fs.getD i false = true then zs.getD i 0 else (its.getD i zIt).1)) its.length = sm (fun i => (its.getD i zIt).2.1 + (if fs.getD i false = true then 0 else (its.getD i zIt).1)) its.length := sm_congr _ fun i _ => by
      (try dsimp only)
      cases hf : fs.getD i false
      · rw [if_neg (by decide), if_neg (by decide)]
      · rw [if_pos rfl, if_pos rfl, hz i hf]
    rw [shareL] at h
    by_cases h0 : 0 ≤ restV its zs fs room
    · rw [if_pos h0] at h
      injection h with h
      rw [← h] at he
      dsimp only at he
      obtain ⟨_, g2⟩ := givN_spec false prG (restV its zs fs room) (allTo prG its fs its.length) its fs its.length 0 zs (r || !restB its zs fs room) (by omega)
      have q := (g2 (by simpa using he)).1
      simp at q
      obtain ⟨e, _⟩ := rest_exact q.2
      rw [sums] at e
      omega
    · rw [if_neg h0] at h
      dsimp only at h
      obtain ⟨g1, g2⟩ := givN_spec true prS (-restV its zs fs room) (allTo prS its fs its.length) its fs its.length 0 zs (r || !restB its zs fs room) (by omega)
      have gl := givN_len true prS (-restV its zs fs room) (allTo prS its fs its.length) its fs its.length 0 (zs, r || !restB its zs fs room)
      generalize givN true prS (-restV its zs fs room) (allTo prS its fs its.length) its fs its.length 0 (zs, r || !restB its zs fs room) = gs at h g1 gl g2
      obtain ⟨zs1, r1⟩ := gs
      dsimp only at h g1 gl g2
      obtain ⟨f1, f2, f3, f4⟩ := frzN_spec zs1.length 0 zs1 fs false (by omega) (by omega)
      have fl := frzN_len zs1.length 0 (zs1, fs, false)
      generalize frzN zs1.length 0 (zs1, fs, false) = fz at h f1 f2 f3 f4 fl
      obtain ⟨zs2, fs2, b2⟩ := fz
      dsimp only at h f1 f2 f3 f4 fl
      have e1 : r1 = false := by
        cases b2
        · rw [if_neg (by decide)] at h
          injection h with h
          rw [← h] at he
          simpa using he
        · rw [if_pos rfl] at h
          exact shareL_exact its room g zs2 fs2 r1 res (by omega) (by omega) h he
      obtain ⟨q, gb⟩ := g2 e1
      simp at q
      obtain ⟨e, _⟩ := rest_exact q.2
      rw [sums] at e
      obtain ⟨D, eD⟩ : ∃ D, D = -restV its zs fs room := ⟨_, rfl⟩
      rw [← eD] at g1 gb
      have hD : 0 ≤ D := by omega
      obtain ⟨F, eF⟩ : ∃ F, F = flo prS D (allTo prS its fs its.length) its fs := ⟨_, rfl⟩
      have hF : sm F its.length ≤ D := by
        rw [eF]
        refine flo_le hD (fun i => (S.s i).1) fun j hj hf => ?_
        have := gb j (by omega) (by omega) hf
        rw [givB_subV, Bool.and_eq_true] at this
        exact this.1
      have F0 : ∀ i, 0 ≤ F i := fun i => by
        rw [eF]; unfold flo
        split
        · exact Int.le_refl _
        · exact shr1_nonneg hD
      -- what is known of zs1
      have z1 : ∀ j, j < its.length → fs.getD j false = false → zs1.getD j 0 = (its.getD j zIt).1 - F j := fun j hj hf => by
        have := gb j (by omega) (by omega) hf
        rw [givB_subV, Bool.and_eq_true] at this
        rw [g1, if_pos ⟨by omega, by omega, hf⟩, givV_subV, (subB_true this.2).1, eF]
        unfold flo
        rw [hf, if_neg (by decide)]
      have z0 : ∀ j, fs.getD j false = true → zs1.getD j 0 = 0 := fun j hf => by
        rw [g1, if_neg (by rw [hf]; simp)]; exact hz j hf
      cases b2
      · rw [if_neg (by decide)] at h
        injection h with h
        rw [← h]
        dsimp only
        have nn := (f3 rfl).2
        have e2 : ∀ j, zs2.getD j 0 = zs1.getD j 0 := fun j => by
          rw [f1]
          by_cases c : 0 ≤ j ∧ j < 0 + zs1.length ∧ fs.getD j false = false ∧ zs1.getD j 0 < 0
          · have := nn j c.1 c.2.1 c.2.2.1; omega
          · rw [if_neg c]
        refine ⟨fun i hi => ?_, ?_⟩
        · rw [e2]
          cases hf : fs.getD i false
          · have a := nn i (by omega) (by omega) hf
            have b := z1 i hi hf
            have c := F0 i
            omega
          · rw [z0 i hf]; have := (S.b i).1; omega
        · have t : sm (fun i => (its.getD i zIt).2.1 + (if fs.getD i false = true then 0 else (its.getD i zIt).1)) its.length ≤ sm (fun i => ((its.getD i zIt).2.1 + zs2.getD i 0) + F i) its.length := sm_le _ fun i hi => by
            (try dsimp only)
            rw [e2]
            cases hf : fs.getD i false
            · rw [if_neg (by decide), z1 i hi hf]; omega
            · rw [if_pos rfl, z0 i hf]; have := F0 i; omega
          rw [sm_add (fun i => (its.getD i zIt).2.1 + zs2.getD i 0) F, sm_add (fun i => (its.getD i zIt).2.1) (fun i => zs2.getD i 0)] at t
          omega
      · rw [if_pos rfl] at h
        refine room_less its S room g zs2 fs2 r1 res (by omega) (by omega) (fun i hf => ?_) ?_ h he
        · rw [f1]
          rw [f2] at hf
          by_cases c : 0 ≤ i ∧ i < 0 + zs1.length ∧ fs.getD i false = false ∧ zs1.getD i 0 < 0
          · rw [if_pos c]
          · rw [if_neg c] at hf ⊢
            exact z0 i hf
        · obtain ⟨j, _, j1, j2, j3⟩ := (f4 rfl).resolve_left (by decide)
          have each : ∀ i, i < its.length → (its.getD i zIt).2.1 + (if fs.getD i false = true then 0 else (its.getD i zIt).1) ≤ ((its.getD i zIt).2.1 + (if fs2.getD i false = true then 0 else (its.getD i zIt).1)) + F i := fun i hi => by
            have a := F0 i
            have bb := (S.b i).1
            rw [f2]
            by_cases c : 0 ≤ i ∧ i < 0 + zs1.length ∧ fs.getD i false = false ∧ zs1.getD i 0 < 0
            · rw [if_pos c, if_pos rfl, c.2.2.1, if_neg (by decide)]
              have := z1 i hi c.2.2.1
              omega
            · rw [if_neg c]
              omega
          have t := sm_lt (f := fun i => (its.getD i zIt).2.1 + (if fs.getD i false = true then 0 else (its.getD i zIt).1)) (g := fun i => ((its.getD i zIt).2.1 + (if fs2.getD i false = true then 0 else (its.getD i zIt).1)) + F i) j its.length each (by omega) (by
            (try dsimp only)
            have q2 : fs2.getD j false = true := by rw [f2, if_pos ⟨by omega, by omega, j2, j3⟩]
            rw [q2, if_pos rfl, j2, if_neg (by decide)]
            have := z1 j (by omega) j2
            omega)
          rw [sm_add (fun i => (its.getD i zIt).2.1 + (if fs2.getD i false = true then 0 else (its.getD i zIt).1)) F] at t
          omega
theorem room_more (its : List It) (S : Smalls its) (room : Int) (g : Nat) (zs : List Int) (fs : List Bool) (r : Bool) (res : List Int × Bool) (lz : zs.length = its.length) (hf : ∀ i, fs.getD i false = false)
    (hr : sm (fun i => (its.getD i zIt).2.1 + (its.getD i zIt).1) its.length ≤ room) (h : shareL its room (g + 1) zs fs r = some res) (lf : fs.length = its.length) (he : res.2 = true) :
    (∀ i, i < its.length → (its.getD i zIt).1 ≤ res.1.getD i 0 ∧ res.1.getD i 0 ≤ 1099511627776) ∧ sm (fun i => res.1.getD i 0) its.length + sm (fun i => (its.getD i zIt).2.1) its.length ≤ room ∧ room ≤ 1099511627776 ∧
    (64 ≤ sm (fun i => prG (its.getD i zIt)) its.length → room < sm (fun i => res.1.getD i 0) its.length + sm (fun i => (its.getD i zIt).2.1) its.length + (its.length : Int)) := by
  have sums : sm (fun i => (its.getD i zIt).2.1 + (if fs.getD i false = true then zs.getD i 0 else (its.getD i zIt).1)) its.length = sm (fun i => (its.getD i zIt).2.1 + (its.getD i zIt).1) its.length := sm_congr _ fun i _ => by
    (try dsimp only)
    rw [hf i, if_neg (by decide)]
  have ea : allTo prG its fs its.length = sm (fun i => prG (its.getD i zIt)) its.length := by
    rw [all_sm]
    exact sm_congr _ fun i _ => by (try dsimp only); rw [hf i, if_neg (by decide)]
  have hr2 : 0 ≤ restV its zs fs room := by
    by_cases h0 : 0 ≤ restV its zs fs room
    · exact h0
    · exfalso
      rw [shareL, if_neg h0] at h
      dsimp only at h
      obtain ⟨_, g2⟩ := givN_spec true prS (-restV its zs fs room) (allTo prS its fs its.length) its fs its.length 0 zs (r || !restB its zs fs room) (by omega)
      have gl := givN_len true prS (-restV its zs fs room) (allTo prS its fs its.length) its fs its.length 0 (zs, r || !restB its zs fs room)
      generalize givN true prS (-restV its zs fs room) (allTo prS its fs its.length) its fs its.length 0 (zs, r || !restB its zs fs room) = gs at h gl g2
      obtain ⟨zs1, r1⟩ := gs
      dsimp only at h gl g2
      have fl := frzN_len zs1.length 0 (zs1, fs, false)
      generalize frzN zs1.length 0 (zs1, fs, false) = fz at h fl
      obtain ⟨zs2, fs2, b2⟩ := fz
      dsimp only at h fl
      have e1 : r1 = false := by
        cases b2
        · rw [if_neg (by decide)] at h
          injection h with h
          rw [← h] at he
          simpa using he
        · rw [if_pos rfl] at h
          exact shareL_exact its room g zs2 fs2 r1 res (by omega) (by omega) h he
      obtain ⟨q, _⟩ := g2 e1
      simp at q
      obtain ⟨e, _⟩ := rest_exact q.2
      rw [sums] at e
      omega
  rw [shareL, if_pos hr2] at h
  injection h with h
  rw [← h] at he ⊢
  dsimp only at he ⊢
  obtain ⟨g1, g2⟩ := givN_spec false prG (restV its zs fs room) (allTo prG its fs its.length) its fs its.length 0 zs (r || !restB its zs fs room) (by omega)
  obtain ⟨q, gb⟩ := g2 (by simpa using he)
  simp at q
  obtain ⟨e, er⟩ := rest_exact q.2
  rw [sums] at e
  obtain ⟨F, eF⟩ : ∃ F, F = flo prG (restV its zs fs room) (allTo prG its fs its.length) its fs := ⟨_, rfl⟩
  have hb : ∀ j, j < its.length → fs.getD j false = false → (shr1 prG (restV its zs fs room) (allTo prG its fs its.length) (its.getD j zIt)).2 = true := fun j hj hf => by
    have := gb j (by omega) (by omega) hf
    rw [givB_addV, Bool.and_eq_true] at this
    exact this.1
  have hF : sm F its.length ≤ restV its zs fs room := by rw [eF]; exact flo_le hr2 (fun i => (S.g i).1) hb
  have F0 : ∀ i, 0 ≤ F i := fun i => by
    rw [eF]; unfold flo
    split
    · exact Int.le_refl _
    · exact shr1_nonneg hr2
  have z1 : ∀ j, j < its.length → (givN false prG (restV its zs fs room) (allTo prG its fs its.length) its fs its.length 0 (zs, r || !restB its zs fs room)).1.getD j 0 = (its.getD j zIt).1 + F j ∧ (its.getD j zIt).1 + F j ≤ 1099511627776 := fun j hj => by
    have := gb j (by omega) (by omega) (hf j)
    rw [givB_addV, Bool.and_eq_true] at this
    have t := addB_true this.2
    rw [g1, if_pos ⟨by omega, by omega, hf j⟩, givV_addV, t.1, eF]
    unfold flo
    rw [hf j, if_neg (by decide)]
    exact ⟨rfl, t.2.2.2.2⟩
  have es : sm (fun i => (givN false prG (restV its zs fs room) (allTo prG its fs its.length) its fs its.length 0 (zs, r || !restB its zs fs room)).1.getD i 0) its.length = sm (fun i => (its.getD i zIt).1) its.length + sm F its.length := by
    rw [← sm_add]
    exact sm_congr _ fun i hi => (z1 i hi).1
  rw [sm_add] at e
  refine ⟨fun i hi => ?_, ?_, er.2, fun h64 => ?_⟩
  · rw [(z1 i hi).1]
    have := F0 i
    have := (z1 i hi).2
    omega
  · rw [es]; omega
  · rw [es]
    have hn : 0 < its.length := by
      by_cases c : its.length = 0
      · rw [c] at h64; simp [sm] at h64
      · omega
    have := flo_gt hr2 hn (fun i => (S.g i).1) hb (by rw [ea]; exact h64)
    rw [← eF] at this
    omega
/-! ### The law -/
section
variable {l : List S48} {o : List Int} {room : Int} (hn : l.length ≤ 100) (hl : o.length = l.length) (hok : ∀ j, j < l.length → okIt (rd_T48 l (j : Int)))
include hn hl in
theorem fr1 (a b : Int) (hle : ∀ i, i < l.length → o.getD i 0 ≤ (rd_T48 l (i : Int)).f0) (hfin : wrap64 (b + a) ≥ room) : ∀ d i, i + d = l.length → Ev (fun k => scrimlaw18_FlexRoom.l1 k l room a b o (o.length : Int) (i : Int)) true
  | 0, i, h => Ev.step (f := fun _ => some true) (fun k => by rw [scrimlaw18_FlexRoom.l1, if_neg (by omega), decide_eq_true hfin]) (Ev.now _)
  | d + 1, i, h => by
    have hi : i < l.length := by omega
    have q := hle i hi
    refine Ev.step (fun k => ?_) (fr1 a b hle hfin d (i + 1) (by omega))
    rw [scrimlaw18_FlexRoom.l1, if_pos (by omega), if_pos (by omega), if_pos (by omega), if_pos (by omega), rd_nat, if_neg (by omega), w64s (n := l.length) hi (by omega)]
include hn hl in
theorem fr2 (a b c : Int) (hle : ∀ i, i < l.length → (rd_T48 l (i : Int)).f0 ≤ o.getD i 0) (hfin : wrap64 (b + a) ≤ room) (hfin2 : ¬ c < 64 → wrap64 (b + a) > wrap64 (room - (l.length : Int))) : ∀ d i, i + d = l.length → Ev (fun k => scrimlaw18_FlexRoom.l2 k l room a b c o (o.length : Int) (i : Int)) true
  | 0, i, h => by
    refine Ev.step (f := fun _ => some true) (fun k => ?_) (Ev.now _)
    rw [scrimlaw18_FlexRoom.l2, if_neg (by omega), if_pos hfin]
    by_cases h64 : c < 64
    · rw [if_pos h64]
    · rw [if_neg h64, decide_eq_true (hfin2 h64)]
  | d + 1, i, h => by
    have hi : i < l.length := by omega
    have q := hle i hi
    refine Ev.step (fun k => ?_) (fr2 a b c hle hfin hfin2 d (i + 1) (by omega))
    rw [scrimlaw18_FlexRoom.l2, if_pos (by omega), if_pos (by omega), if_pos (by omega), if_pos (by omega), rd_nat, if_neg (by omega), w64s (n := l.length) hi (by omega)]
include hn hl hok in
theorem fr0 (ho : ∀ i, i < l.length → 0 ≤ o.getD i 0 ∧ o.getD i 0 ≤ 1099511627776)
    (H1 : room < sm (fun i => (rd_T48 l (i : Int)).f0) l.length + sm (fun i => (rd_T48 l (i : Int)).f1) l.length → (∀ i, i < l.length → o.getD i 0 ≤ (rd_T48 l (i : Int)).f0) ∧ room ≤ sm (fun i => o.getD i 0) l.length + sm (fun i => (rd_T48 l (i : Int)).f1) l.length)
    (H2 : sm (fun i => (rd_T48 l (i : Int)).f0) l.length + sm (fun i => (rd_T48 l (i : Int)).f1) l.length ≤ room → (∀ i, i < l.length → (rd_T48 l (i : Int)).f0 ≤ o.getD i 0) ∧ sm (fun i => o.getD i 0) l.length + sm (fun i => (rd_T48 l (i : Int)).f1) l.length ≤ room ∧ room ≤ 1099511627776 ∧
      (64 ≤ sm (fun i => (rd_T48 l (i : Int)).f2) l.length → room < sm (fun i => o.getD i 0) l.length + sm (fun i => (rd_T48 l (i : Int)).f1) l.length + (l.length : Int))) : ∀ d i, i + d = l.length →
    Ev (fun k => scrimlaw18_FlexRoom.l0 k l room o (sm (fun i => (rd_T48 l (i : Int)).f0) i) (sm (fun i => (rd_T48 l (i : Int)).f1) i) (sm (fun i => o.getD i 0) i) (sm (fun i => (rd_T48 l (i : Int)).f2) i) o (o.length : Int) (i : Int)) true
  | 0, i, h => by
    have e : i = l.length := by omega
    subst e
    have b0 := sm_bd (f := fun i => (rd_T48 l (i : Int)).f0) (B := 1099511627776) l.length (fun i hi => by have := hok i hi; unfold okIt at this; (try dsimp only); omega)
    have b1 := sm_bd (f := fun i => (rd_T48 l (i : Int)).f1) (B := 1099511627776) l.length (fun i hi => by have := hok i hi; unfold okIt at this; (try dsimp only); omega)
    have b2 := sm_bd (f := fun i => o.getD i 0) (B := 1099511627776) l.length (fun i hi => ho i hi)
    by_cases c : room < sm (fun i => (rd_T48 l (i : Int)).f0) l.length + sm (fun i => (rd_T48 l (i : Int)).f1) l.length
    · obtain ⟨g1, g2⟩ := H1 c
      refine Ev.step (fun k => ?_) (fr1 (room := room) hn hl (sm (fun i => (rd_T48 l (i : Int)).f1) l.length) (sm (fun i => o.getD i 0) l.length) g1 (by rw [w64 (by omega) (by omega)]; exact g2) l.length 0 (by omega))
      rw [scrimlaw18_FlexRoom.l0, if_neg (by omega), w64 (n := sm (fun i => (rd_T48 l (i : Int)).f0) l.length + sm (fun i => (rd_T48 l (i : Int)).f1) l.length) (by omega) (by omega), if_pos c]
      rfl
    · obtain ⟨g1, g2, g3, g4⟩ := H2 (by omega)
      refine Ev.step (fun k => ?_) (fr2 (room := room) hn hl (sm (fun i => (rd_T48 l (i : Int)).f1) l.length) (sm (fun i => o.getD i 0) l.length) (sm (fun i => (rd_T48 l (i : Int)).f2) l.length) g1 (by rw [w64 (by omega) (by omega)]; exact g2) (fun h64 => by rw [w64 (by omega) (by omega), w64 (by omega) (by omega)]; have := g4 (by omega); omega) l.length 0 (by omega))
      rw [scrimlaw18_FlexRoom.l0, if_neg (by omega), w64 (n := sm (fun i => (rd_T48 l (i : Int)).f0) l.length + sm (fun i => (rd_T48 l (i : Int)).f1) l.length) (by omega) (by omega), if_neg c]
      rfl
  | d + 1, i, h => by
    have hi : i < l.length := by omega
    have b0 := sm_bd (f := fun i => (rd_T48 l (i : Int)).f0) (B := 1099511627776) i (fun i hi => by have := hok i (by omega); unfold okIt at this; (try dsimp only); omega)
    have b1 := sm_bd (f := fun i => (rd_T48 l (i : Int)).f1) (B := 1099511627776) i (fun i hi => by have := hok i (by omega); unfold okIt at this; (try dsimp only); omega)
    have b2 := sm_bd (f := fun i => o.getD i 0) (B := 1099511627776) i (fun i hi => ho i (by omega))
    have b3 := sm_bd (f := fun i => (rd_T48 l (i : Int)).f2) (B := 6400) i (fun i hi => by have := hok i (by omega); unfold okIt at this; (try dsimp only); omega)
    have q := ho i hi
    have p := hok i hi
    unfold okIt at p
    refine Ev.step (fun k => ?_) (fr0 ho H1 H2 d (i + 1) (by omega))
    rw [scrimlaw18_FlexRoom.l0, if_pos (by omega), if_pos (by omega), if_pos (by omega), rd_nat, if_neg (by omega), if_pos (by omega), w64s (n := l.length) hi (by omega), w64 (by omega) (by omega), w64 (by omega) (by omega), w64 (by omega) (by omega), w64 (by omega) (by omega)]
    rfl
end
/-- FlexRoom. -/
theorem FlexRoom (l : List S48) (room : Int) (hb : l.length ≤ 9223372036854775807) : ∃ k, scrimlaw18_FlexRoom.f k l room = some true := by
  refine Ev.rounds ?_
  unfold scrimlaw18_FlexRoom.f
  refine Ev.bind awake_ev ?_
  refine Ev.congr (fun k => if_pos rfl) ?_
  obtain ⟨b, h1, h2⟩ := small_l l hb l.length 0 (by omega) (fun j hj => by omega)
  refine Ev.bind (g := fun k => scrimlaw18_small.f k l) h1 ?_
  cases b
  · exact Ev.congr (f := fun _ => some true) (fun k => if_neg (by decide)) (Ev.now _)
  · refine Ev.congr (fun k => if_pos rfl) ?_
    obtain ⟨hn, hok⟩ := h2 rfl
    obtain ⟨hS, hc⟩ := smalls l hn hok
    obtain ⟨res, e1, e2, e3⟩ := share_small l hn room hc
    refine Ev.bind e1 ?_
    refine Ev.congr (fun k => if_pos (by rw [e3])) ?_
    have hlen : (l.map flex_Share.it).length = l.length := List.length_map ..
    cases hx : res.2
    · exact Ev.congr (f := fun _ => some true) (fun k => if_neg (by decide)) (Ev.now _)
    · refine Ev.congr (fun k => if_pos rfl) ?_
      have f0 : ∀ i, (List.replicate l.length false).getD i false = false := fun i => by
        simp only [List.getD, List.getElem?_replicate]
        split <;> rfl
      have s1 : sm (fun i => ((l.map flex_Share.it).getD i zIt).2.1) l.length = sm (fun i => (rd_T48 l (i : Int)).f1) l.length := sm_congr _ fun i _ => by (try dsimp only); rw [its_get]; rfl
      have s0 : sm (fun i => ((l.map flex_Share.it).getD i zIt).1) l.length = sm (fun i => (rd_T48 l (i : Int)).f0) l.length := sm_congr _ fun i _ => by (try dsimp only); rw [its_get]; rfl
      have s2 : sm (fun i => prG ((l.map flex_Share.it).getD i zIt)) l.length = sm (fun i => (rd_T48 l (i : Int)).f2) l.length := sm_congr _ fun i _ => by (try dsimp only); rw [its_get]; rfl
      have ss : sm (fun i => ((l.map flex_Share.it).getD i zIt).2.1 + (if (List.replicate l.length false).getD i false = true then 0 else ((l.map flex_Share.it).getD i zIt).1)) l.length = sm (fun i => (rd_T48 l (i : Int)).f1) l.length + sm (fun i => (rd_T48 l (i : Int)).f0) l.length := by
        rw [← s1, ← s0, ← sm_add]
        exact sm_congr _ fun i _ => by (try dsimp only); rw [f0 i, if_neg (by decide)]
      have L : room < sm (fun i => (rd_T48 l (i : Int)).f0) l.length + sm (fun i => (rd_T48 l (i : Int)).f1) l.length → (∀ i, i < l.length → 0 ≤ res.1.getD i 0 ∧ res.1.getD i 0 ≤ (rd_T48 l (i : Int)).f0) ∧ room ≤ sm (fun i => res.1.getD i 0) l.length + sm (fun i => (rd_T48 l (i : Int)).f1) l.length := fun c => by
        obtain ⟨g1, g2⟩ := room_less (l.map flex_Share.it) hS room _ _ _ _ _ (by rw [hlen]; simp) (by rw [hlen]; simp) (fun i hi => by rw [f0] at hi; cases hi) (by rw [hlen, ss]; omega) e2 hx
        rw [hlen, s1] at g2
        refine ⟨fun i hi => ?_, g2⟩
        have := g1 i (by omega)
        rw [its_get] at this
        exact this
      have M : sm (fun i => (rd_T48 l (i : Int)).f0) l.length + sm (fun i => (rd_T48 l (i : Int)).f1) l.length ≤ room → (∀ i, i < l.length → (rd_T48 l (i : Int)).f0 ≤ res.1.getD i 0 ∧ res.1.getD i 0 ≤ 1099511627776) ∧ sm (fun i => res.1.getD i 0) l.length + sm (fun i => (rd_T48 l (i : Int)).f1) l.length ≤ room ∧ room ≤ 1099511627776 ∧
          (64 ≤ sm (fun i => (rd_T48 l (i : Int)).f2) l.length → room < sm (fun i => res.1.getD i 0) l.length + sm (fun i => (rd_T48 l (i : Int)).f1) l.length + (l.length : Int)) := fun c => by
        obtain ⟨g1, g2, g3, g4⟩ := room_more (l.map flex_Share.it) hS room _ _ _ _ _ (by rw [hlen]; simp) f0 (by rw [hlen, sm_add, s1, s0]; omega) e2 (by rw [hlen]; simp) hx
        rw [hlen, s1] at g2 g4
        rw [s2] at g4
        refine ⟨fun i hi => ?_, g2, g3, g4⟩
        have := g1 i (by omega)
        rw [its_get] at this
        exact this
      refine fr0 hn e3 hok (fun i hi => ?_) (fun c => ?_) (fun c => ?_) l.length 0 (by omega)
      · have p := hok i hi
        unfold okIt at p
        by_cases c : room < sm (fun i => (rd_T48 l (i : Int)).f0) l.length + sm (fun i => (rd_T48 l (i : Int)).f1) l.length
        · have := (L c).1 i hi; omega
        · have := (M (by omega)).1 i hi; omega
      · exact ⟨fun i hi => ((L c).1 i hi).2, (L c).2⟩
      · exact ⟨fun i hi => ((M c).1 i hi).1, (M c).2⟩
end Go.Proofs.FlexR
