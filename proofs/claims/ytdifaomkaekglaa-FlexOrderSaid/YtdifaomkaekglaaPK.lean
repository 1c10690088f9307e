/- Plain lemmas over the printed functions: Share gives alike items alike, awake and small; FlexAlike's plain half; no condition beside those that each theorem states. -/
import Derived.Test.YtdifaomkaekglaaFG
import Derived.Test.YtdifaomkaekglaaHR4
import Derived.KernelRfl
set_option linter.unusedVariables false
set_option linter.unusedSimpArgs false
namespace Go.Proofs.FlexQ
open Go.RowKit Go.Proofs Go.Proofs.Prt Go.Proofs.Flx Go.Proofs.YtdifaomkaekglaaW.PrintWords
theorem getD_set (l : List Int) (i j : Nat) (x : Int) (hi : i < l.length) : (l.set i x).getD j 0 = if j = i then x else l.getD j 0 := by
  simp only [List.getD, List.getElem?_set]
  by_cases e : i = j
  · subst e; rw [if_pos rfl, if_pos rfl, if_pos hi]; rfl
  · rw [if_neg e, if_neg (Ne.symm e)]
theorem getD_setB (l : List Bool) (i j : Nat) (x : Bool) (hi : i < l.length) : (l.set i x).getD j false = if j = i then x else l.getD j false := by
  simp only [List.getD, List.getElem?_set]
  by_cases e : i = j
  · subst e; rw [if_pos rfl, if_pos rfl, if_pos hi]; rfl
  · rw [if_neg e, if_neg (Ne.symm e)]
theorem givN_spec (less : Bool) (pr : It → Int) (much all : Int) (its : List It) (fs : List Bool) : ∀ d i zs r, i + d ≤ zs.length →
    (∀ j, (givN less pr much all its fs d i (zs, r)).1.getD j 0 = if i ≤ j ∧ j < i + d ∧ fs.getD j false = false then givV less pr much all (its.getD j zIt) else zs.getD j 0) ∧
    ((givN less pr much all its fs d i (zs, r)).2 = false → r = false ∧ ∀ j, i ≤ j → j < i + d → fs.getD j false = false → givB less pr much all (its.getD j zIt) = true)
  | 0, i, zs, r, h => by
    rw [givN]
    exact ⟨fun j => by rw [if_neg (by omega)], fun q => ⟨q, fun j h1 h2 => by omega⟩⟩
  | d + 1, i, zs, r, h => by
    rw [givN, giv]
    cases hb : fs.getD i false
    · rw [if_neg (by decide)]
      obtain ⟨g1, g2⟩ := givN_spec less pr much all its fs d (i + 1) (zs.set i (givV less pr much all (its.getD i zIt))) (r || !givB less pr much all (its.getD i zIt)) (by simp; omega)
      refine ⟨fun j => ?_, fun q => ?_⟩
      · rw [g1, getD_set _ _ _ _ (by omega)]
        by_cases e : j = i
        · subst e
          rw [if_neg (by omega), if_pos rfl, if_pos ⟨by omega, by omega, hb⟩]
        · rw [if_neg e]
          by_cases c : i + 1 ≤ j ∧ j < i + 1 + d ∧ fs.getD j false = false
          · rw [if_pos c, if_pos ⟨by omega, by omega, c.2.2⟩]
          · rw [if_neg c, if_neg (fun c2 => c ⟨by omega, by omega, c2.2.2⟩)]
      · obtain ⟨q1, q2⟩ := g2 q
        simp only [Bool.or_eq_false_iff, Bool.not_eq_false'] at q1
        refine ⟨q1.1, fun j h1 h2 h3 => ?_⟩
        by_cases e : j = i
        · rw [e]; exact q1.2
        · exact q2 j (by omega) (by omega) h3
    · rw [if_pos rfl]
      obtain ⟨g1, g2⟩ := givN_spec less pr much all its fs d (i + 1) zs r (by omega)
      refine ⟨fun j => ?_, fun q => ?_⟩
      · rw [g1]
        by_cases e : j = i
        · subst e
          rw [if_neg (by omega), if_neg (by rw [hb]; simp)]
        · by_cases c : i + 1 ≤ j ∧ j < i + 1 + d ∧ fs.getD j false = false
          · rw [if_pos c, if_pos ⟨by omega, by omega, c.2.2⟩]
          · rw [if_neg c, if_neg (fun c2 => c ⟨by omega, by omega, c2.2.2⟩)]
      · obtain ⟨q1, q2⟩ := g2 q
        refine ⟨q1, fun j h1 h2 h3 => ?_⟩
        by_cases e : j = i
        · rw [e, hb] at h3; cases h3
        · exact q2 j (by omega) (by omega) h3
theorem frzN_spec : ∀ d i z f b, i + d ≤ z.length → i + d ≤ f.length →
    (∀ j, (frzN d i (z, f, b)).1.getD j 0 = if i ≤ j ∧ j < i + d ∧ f.getD j false = false ∧ z.getD j 0 < 0 then 0 else z.getD j 0) ∧
    (∀ j, (frzN d i (z, f, b)).2.1.getD j false = if i ≤ j ∧ j < i + d ∧ f.getD j false = false ∧ z.getD j 0 < 0 then true else f.getD j false) ∧
    ((frzN d i (z, f, b)).2.2 = false → b = false ∧ ∀ j, i ≤ j → j < i + d → f.getD j false = false → 0 ≤ z.getD j 0) ∧
    ((frzN d i (z, f, b)).2.2 = true → b = true ∨ ∃ j, i ≤ j ∧ j < i + d ∧ f.getD j false = false ∧ z.getD j 0 < 0)
  | 0, i, z, f, b, h, hf => by
    rw [frzN]
    exact ⟨fun j => by rw [if_neg (by omega)], fun j => by rw [if_neg (by omega)], fun q => ⟨q, fun j h1 h2 => by omega⟩, fun q => Or.inl q⟩
  | d + 1, i, z, f, b, h, hf => by
    rw [frzN, frz]
    by_cases hb : f.getD i false = false ∧ z.getD i 0 < 0
    · rw [if_pos hb]
      obtain ⟨g1, g2, g3, g4⟩ := frzN_spec d (i + 1) (z.set i 0) (f.set i true) true (by simp; omega) (by simp; omega)
      refine ⟨fun j => ?_, fun j => ?_, fun q => ?_, fun _ => Or.inr ⟨i, by omega, by omega, hb⟩⟩
      · rw [g1, getD_set _ _ _ _ (by omega), getD_setB _ _ _ _ (by omega)]
        by_cases e : j = i
        · subst e
          rw [if_neg (by omega), if_pos rfl, if_pos ⟨by omega, by omega, hb⟩]
        · rw [if_neg e, if_neg e]
          by_cases c : i + 1 ≤ j ∧ j < i + 1 + d ∧ f.getD j false = false ∧ z.getD j 0 < 0
          · rw [if_pos c, if_pos ⟨by omega, by omega, c.2.2⟩]
          · rw [if_neg c, if_neg (fun c2 => c ⟨by omega, by omega, c2.2.2⟩)]
      · rw [g2, getD_set _ _ _ _ (by omega), getD_setB _ _ _ _ (by omega)]
        by_cases e : j = i
        · subst e
          rw [if_neg (by omega), if_pos rfl, if_pos ⟨by omega, by omega, hb⟩]
        · rw [if_neg e, if_neg e]
          by_cases c : i + 1 ≤ j ∧ j < i + 1 + d ∧ f.getD j false = false ∧ z.getD j 0 < 0
          · rw [if_pos c, if_pos ⟨by omega, by omega, c.2.2⟩]
          · rw [if_neg c, if_neg (fun c2 => c ⟨by omega, by omega, c2.2.2⟩)]
      · exact absurd (g3 q).1 (by decide)
    · rw [if_neg hb]
      obtain ⟨g1, g2, g3, g4⟩ := frzN_spec d (i + 1) z f b (by omega) (by omega)
      have ne : ∀ j, j = i → ¬ (f.getD j false = false ∧ z.getD j 0 < 0) := fun j e => by rw [e]; exact hb
      refine ⟨fun j => ?_, fun j => ?_, fun q => ?_, fun q => ?_⟩
      · rw [g1]
        by_cases c : i + 1 ≤ j ∧ j < i + 1 + d ∧ f.getD j false = false ∧ z.getD j 0 < 0
        · rw [if_pos c, if_pos ⟨by omega, by omega, c.2.2⟩]
        · rw [if_neg c, if_neg (fun c2 => by
            by_cases e : j = i
            · exact ne j e c2.2.2
            · exact c ⟨by omega, by omega, c2.2.2⟩)]
      · rw [g2]
        by_cases c : i + 1 ≤ j ∧ j < i + 1 + d ∧ f.getD j false = false ∧ z.getD j 0 < 0
        · rw [if_pos c, if_pos ⟨by omega, by omega, c.2.2⟩]
        · rw [if_neg c, if_neg (fun c2 => by
            by_cases e : j = i
            · exact ne j e c2.2.2
            · exact c ⟨by omega, by omega, c2.2.2⟩)]
      · obtain ⟨q1, q2⟩ := g3 q
        refine ⟨q1, fun j h1 h2 h3 => ?_⟩
        by_cases e : j = i
        · have := ne j e
          exact Int.not_lt.1 (fun hz => this ⟨h3, hz⟩)
        · exact q2 j (by omega) (by omega) h3
      · rcases g4 q with g | ⟨j, h1, h2, h3⟩
        · exact Or.inl g
        · exact Or.inr ⟨j, by omega, by omega, h3⟩
end Go.Proofs.FlexQ
namespace Go.Proofs.FlexQ
open Go.RowKit Go.Proofs Go.Proofs.Prt Go.Proofs.Flx Go.Proofs.YtdifaomkaekglaaW.PrintWords
theorem clampV_mono {a b : Int} (h : a ≤ b) : clampV a ≤ clampV b := by unfold clampV; (repeat' split) <;> omega
theorem addV_mono {a b c : Int} (h : b ≤ c) : addV a b ≤ addV a c := by
  unfold addV
  exact clampV_mono (by have := clampV_mono h; omega)
theorem subV_mono {a b c : Int} (h : b ≤ c) : subV a c ≤ subV a b := by
  unfold subV
  exact clampV_mono (by have := clampV_mono h; omega)
theorem clampV_nonneg {a : Int} (h : 0 ≤ a) : 0 ≤ clampV a := by unfold clampV; (repeat' split) <;> omega
theorem partV_nonneg {a n d : Int} (ha : 0 ≤ a) : 0 ≤ partV a n d := by
  unfold partV
  split
  · rename_i ho
    have h : 0 ≤ n ∧ n ≤ 1048576 ∧ 1 ≤ d ∧ d ≤ 1048576 := by simpa [partOk] using ho
    have hp : 0 ≤ clampV a * n := Int.mul_nonneg (clampV_nonneg ha) h.1
    refine clampV_nonneg ?_
    rw [Int.tdiv_eq_ediv_of_nonneg hp]
    exact Int.ediv_nonneg hp (by omega)
  · omega
theorem partV_mono {a n n' d : Int} (ha : 0 ≤ a) (h0 : 0 ≤ n) (h : n ≤ n') (h' : n' ≤ 1048576) : partV a n d ≤ partV a n' d := by
  unfold partV
  by_cases hd : 1 ≤ d ∧ d ≤ 1048576
  · rw [if_pos (by simp [partOk]; omega), if_pos (by simp [partOk]; omega)]
    refine clampV_mono ?_
    have hc := clampV_nonneg ha
    rw [Int.tdiv_eq_ediv_of_nonneg (Int.mul_nonneg hc h0), Int.tdiv_eq_ediv_of_nonneg (Int.mul_nonneg hc (by omega))]
    exact Int.ediv_le_ediv (by omega) (Int.mul_le_mul_of_nonneg_left h hc)
  · rw [if_neg (by simp [partOk]; omega), if_neg (by simp [partOk]; omega)]
    omega
theorem shr1_nonneg {pr : It → Int} {much all : Int} {x : It} (hm : 0 ≤ much) : 0 ≤ (shr1 pr much all x).1 := by
  unfold shr1
  split
  · exact partV_nonneg hm
  · exact Int.le_refl 0
theorem shr1_mono {pr : It → Int} {much all : Int} {x y : It} (hm : 0 ≤ much) (hx : 0 ≤ pr x) (h : pr x ≤ pr y) (hy : pr y ≤ 6400) : (shr1 pr much all x).1 ≤ (shr1 pr much all y).1 := by
  unfold shr1
  by_cases h1 : pr x > 0
  · rw [if_pos h1, if_pos (by omega)]
    exact partV_mono hm hx h (by omega)
  · rw [if_neg h1]
    split
    · exact partV_nonneg hm
    · exact Int.le_refl 0
/-- Items that count as they are. -/
structure Smalls (its : List It) : Prop where
  n : its.length ≤ 100
  b : ∀ i, 0 ≤ (its.getD i zIt).1 ∧ (its.getD i zIt).1 ≤ 1099511627776
  e : ∀ i, 0 ≤ (its.getD i zIt).2.1 ∧ (its.getD i zIt).2.1 ≤ 1099511627776
  g : ∀ i, 0 ≤ prG (its.getD i zIt) ∧ prG (its.getD i zIt) ≤ 6400
  s : ∀ i, 0 ≤ prS (its.getD i zIt) ∧ prS (its.getD i zIt) ≤ 6400
def Rel (its : List It) (i k : Nat) : Prop := (its.getD i zIt).1 = (its.getD k zIt).1 ∧ prG (its.getD k zIt) ≤ prG (its.getD i zIt) ∧ prS (its.getD i zIt) ≤ prS (its.getD k zIt)
def Plain (its : List It) (i : Nat) : Prop := prG (its.getD i zIt) = 0 ∧ prS (its.getD i zIt) = 0
structure AInv (its : List It) (zs : List Int) (fs : List Bool) : Prop where
  lz : zs.length = its.length
  lf : fs.length = its.length
  fz : ∀ i, fs.getD i false = true → zs.getD i 0 = 0
  fr : ∀ i k, i < its.length → k < its.length → Rel its i k → fs.getD i false = true → fs.getD k false = true
  pl : ∀ i, i < its.length → Plain its i → fs.getD i false = false
theorem givV_plain {less : Bool} {pr : It → Int} {much all : Int} {x : It} (h : pr x = 0) (hb : 0 ≤ x.1 ∧ x.1 ≤ 1099511627776) : givV less pr much all x = x.1 := by
  have e : (shr1 pr much all x).1 = 0 := by unfold shr1; rw [if_neg (by omega)]
  cases less
  · rw [givV_addV, e]
    unfold addV
    rw [clampV_t (n := x.1) (by omega) (by omega), clampV_t (n := 0) (by omega) (by omega), Int.add_zero, clampV_t (n := x.1) (by omega) (by omega)]
  · rw [givV_subV, e]
    unfold subV
    rw [clampV_t (n := x.1) (by omega) (by omega), clampV_t (n := 0) (by omega) (by omega), Int.sub_zero, clampV_t (n := x.1) (by omega) (by omega)]
theorem alike (its : List It) (S : Smalls its) (room : Int) : ∀ g zs fs r res, AInv its zs fs → shareL its room g zs fs r = some res →
    (∀ i, i < its.length → Plain its i → res.1.getD i 0 = (its.getD i zIt).1) ∧ (∀ i k, i < its.length → k < its.length → Rel its i k → res.1.getD k 0 ≤ res.1.getD i 0)
  | 0, _, _, _, _, _, h => by simp [shareL] at h
  | g + 1, zs, fs, r, res, I, h => by
    have lz := I.lz
    have lf := I.lf
    rw [shareL] at h
    by_cases h0 : 0 ≤ restV its zs fs room
    · rw [if_pos h0] at h
      injection h with h
      rw [← h]
      dsimp only
      obtain ⟨g1, _⟩ := givN_spec false prG (restV its zs fs room) (allTo prG its fs its.length) its fs its.length 0 zs (r || !restB its zs fs room) (by omega)
      refine ⟨fun i hi hp => ?_, fun i k hi hk hr => ?_⟩
      · rw [g1, if_pos ⟨by omega, by omega, I.pl i hi hp⟩]
        exact givV_plain hp.1 (S.b i)
      · rw [g1, g1]
        have nn : ∀ j, 0 ≤ givV false prG (restV its zs fs room) (allTo prG its fs its.length) (its.getD j zIt) := fun j => by
          rw [givV_addV]
          unfold addV
          have a1 := clampV_nonneg (S.b j).1
          have a2 := clampV_nonneg (shr1_nonneg (pr := prG) (all := allTo prG its fs its.length) (x := its.getD j zIt) h0)
          exact clampV_nonneg (by omega)
        cases hk2 : fs.getD k false
        · have hi2 : fs.getD i false = false := by
            cases hi3 : fs.getD i false
            · rfl
            · have := I.fr i k hi hk hr hi3
              rw [hk2] at this; cases this
          rw [if_pos ⟨by omega, by omega, rfl⟩, hi2, if_pos ⟨by omega, by omega, rfl⟩, givV_addV, givV_addV, hr.1]
          exact addV_mono (shr1_mono h0 (S.g k).1 hr.2.1 (S.g i).2)
        · rw [if_neg (by simp), I.fz k hk2]
          cases hi2 : fs.getD i false
          · rw [if_pos ⟨by omega, by omega, rfl⟩]; exact nn i
          · rw [if_neg (by simp), I.fz i hi2]; omega
    · rw [if_neg h0] at h
      dsimp only at h
      obtain ⟨g1, _⟩ := givN_spec true prS (-restV its zs fs room) (allTo prS its fs its.length) its fs its.length 0 zs (r || !restB its zs fs room) (by omega)
      have gl := givN_len true prS (-restV its zs fs room) (allTo prS its fs its.length) its fs its.length 0 (zs, r || !restB its zs fs room)
      generalize givN true prS (-restV its zs fs room) (allTo prS its fs its.length) its fs its.length 0 (zs, r || !restB its zs fs room) = gs at h g1 gl
      obtain ⟨zs1, r1⟩ := gs
      dsimp only at h g1 gl
      obtain ⟨f1, f2, f3, f4⟩ := frzN_spec zs1.length 0 zs1 fs false (by omega) (by omega)
      have fl := frzN_len zs1.length 0 (zs1, fs, false)
      generalize frzN zs1.length 0 (zs1, fs, false) = fz at h f1 f2 f3 f4 fl
      obtain ⟨zs2, fs2, b2⟩ := fz
      dsimp only at h f1 f2 f3 f4 fl
      have hm : 0 ≤ -restV its zs fs room := by omega
      -- what is known of zs1
      have z1 : ∀ j, j < its.length → fs.getD j false = false → zs1.getD j 0 = subV (its.getD j zIt).1 (shr1 prS (-restV its zs fs room) (allTo prS its fs its.length) (its.getD j zIt)).1 := fun j hj hf => by
        rw [g1, if_pos ⟨by omega, by omega, hf⟩, givV_subV]
      have z0 : ∀ j, fs.getD j false = true → zs1.getD j 0 = 0 := fun j hf => by
        rw [g1, if_neg (by rw [hf]; simp)]; exact I.fz j hf
      have pz : ∀ j, j < its.length → Plain its j → zs1.getD j 0 = (its.getD j zIt).1 := fun j hj hp => by
        rw [g1, if_pos ⟨by omega, by omega, I.pl j hj hp⟩]; exact givV_plain hp.2 (S.b j)
      have mono : ∀ i k, i < its.length → k < its.length → Rel its i k → fs.getD i false = false → fs.getD k false = false → zs1.getD k 0 ≤ zs1.getD i 0 := fun i k hi hk hr h1 h2 => by
        rw [z1 i hi h1, z1 k hk h2, hr.1]
        exact subV_mono (shr1_mono hm (S.s i).1 hr.2.2 (S.s k).2)
      cases b2
      · rw [if_neg (by decide)] at h
        injection h with h
        rw [← h]
        dsimp only
        have nn := (f3 rfl).2
        have e2 : ∀ j, zs2.getD j 0 = zs1.getD j 0 := fun j => by
          rw [f1]
          by_cases c : 0 ≤ j ∧ j < 0 + zs1.length ∧ fs.getD j false = false ∧ zs1.getD j 0 < 0
          · have := nn j c.1 c.2.1 c.2.2.1; omega
          · rw [if_neg c]
        refine ⟨fun i hi hp => by rw [e2]; exact pz i hi hp, fun i k hi hk hr => ?_⟩
        rw [e2, e2]
        cases hk2 : fs.getD k false
        · have hi2 : fs.getD i false = false := by
            cases hi3 : fs.getD i false
            · rfl
            · have := I.fr i k hi hk hr hi3
              rw [hk2] at this; cases this
          exact mono i k hi hk hr hi2 hk2
        · rw [z0 k hk2]
          cases hi2 : fs.getD i false
          · exact nn i (by omega) (by omega) hi2
          · rw [z0 i hi2]; omega
      · rw [if_pos rfl] at h
        refine alike its S room g zs2 fs2 r1 res ⟨by omega, by omega, fun i hf => ?_, fun i k hi hk hr hf => ?_, fun i hi hp => ?_⟩ h
        · rw [f1]
          rw [f2] at hf
          by_cases c : 0 ≤ i ∧ i < 0 + zs1.length ∧ fs.getD i false = false ∧ zs1.getD i 0 < 0
          · rw [if_pos c]
          · rw [if_neg c] at hf ⊢
            exact z0 i hf
        · rw [f2] at hf ⊢
          by_cases c : 0 ≤ k ∧ k < 0 + zs1.length ∧ fs.getD k false = false ∧ zs1.getD k 0 < 0
          · rw [if_pos c]
          · rw [if_neg c]
            by_cases ci : 0 ≤ i ∧ i < 0 + zs1.length ∧ fs.getD i false = false ∧ zs1.getD i 0 < 0
            · cases hk2 : fs.getD k false
              · have := mono i k hi hk hr ci.2.2.1 hk2
                exact absurd ⟨by omega, by omega, hk2, by omega⟩ c
              · rfl
            · rw [if_neg ci] at hf
              exact I.fr i k hi hk hr hf
        · rw [f2]
          rw [if_neg (fun c => by have := pz i hi hp; have := (S.b i).1; omega)]
          exact I.pl i hi hp
end Go.Proofs.FlexQ
namespace Go.Proofs.FlexR
open Go.RowKit Go.Proofs Go.Proofs.Prt Go.Proofs.Flx Go.Proofs.Stable Go.Proofs.FlexQ Go.Proofs.Ytdifaomkaekglaa.HR Go.Proofs.YtdifaomkaekglaaW.PrintWords Go.Proofs.YtdifaomkaekglaaW.PrintLast Go.Proofs.YtdifaomkaekglaaW.PrintMore
abbrev Res := List Int × Bool
theorem w64 {n : Int} (h1 : -9223372036854775808 ≤ n) (h2 : n ≤ 9223372036854775807) : wrap64 n = n := by unfold wrap64; omega
theorem mx_eq (a b : Int) : mx a b = max a b := by unfold mx; split <;> omega
theorem mn_eq (a b : Int) : mn a b = min a b := by unfold mn; split <;> omega
theorem rd_nat (xs : List Int) (i : Nat) : rd xs (i : Int) = xs.getD i 0 := by unfold rd; rw [Int.toNat_natCast]
theorem w64s {i n : Nat} (h : i < n) (hn : n ≤ 9223372036854775807) : wrap64 ((i : Int) + 1) = ((i + 1 : Nat) : Int) := by rw [w64 (by omega) (by omega)]; omega
/-! ### Justify -/
def jAt (l : List Int) (at0 gap : Int) : Nat → Int
  | 0 => at0
  | i + 1 => addV (addV (jAt l at0 gap i) (l.getD i 0)) gap
def jEx (l : List Int) (at0 gap : Int) (ex : Bool) : Nat → Bool
  | 0 => ex
  | i + 1 => jEx l at0 gap ex i && addB (jAt l at0 gap i) (l.getD i 0) && addB (addV (jAt l at0 gap i) (l.getD i 0)) gap
def jOut (l : List Int) (at0 gap : Int) (n : Nat) : List Int := (List.range n).map (jAt l at0 gap)
theorem jOut_succ (l : List Int) (at0 gap : Int) (n : Nat) : jOut l at0 gap (n + 1) = jOut l at0 gap n ++ [jAt l at0 gap n] := by simp [jOut, List.range_succ]
theorem jOut_len (l : List Int) (at0 gap : Int) (n : Nat) : (jOut l at0 gap n).length = n := by simp [jOut]
theorem jOut_get (l : List Int) (at0 gap : Int) (n i : Nat) (h : i < n) : (jOut l at0 gap n).getD i 0 = jAt l at0 gap i := by simp [jOut, List.getD, h]
def jV (l : List Int) (at0 gap : Int) (ex : Bool) : Res := (jOut l at0 gap l.length, jEx l at0 gap ex (l.length - 1))
theorem jl_ev (l : List Int) (hn : l.length ≤ 1000) (at0 gap : Int) (ex : Bool) : ∀ d i, i + d + 1 = l.length → Ev (fun k => flex_Justify.l0 k l (jEx l at0 gap ex i) (jAt l at0 gap i) gap (jOut l at0 gap i) l (l.length : Int) (i : Int)) (jV l at0 gap ex)
  | 0, i, h => by
    refine Ev.step (f := fun _ => some (jV l at0 gap ex)) (fun k => ?_) (Ev.now _)
    rw [flex_Justify.l0, if_pos (by omega), if_pos (by omega), if_pos (by omega), if_pos (by rw [jOut_len]; omega)]
    rw [Option.bind_some, w64s (n := l.length) (by omega) (by omega), if_pos (by omega)]
    have e : jV l at0 gap ex = (jOut l at0 gap i ++ [jAt l at0 gap i], jEx l at0 gap ex i) := by
      unfold jV
      have e2 : l.length - 1 = i := by omega
      rw [e2, show l.length = i + 1 by omega, jOut_succ]
    rw [e]
  | d + 1, i, h => by
    have ih := jl_ev l hn at0 gap ex d (i + 1) (by omega)
    refine Ev.step (fun k => ?_) ih
    rw [flex_Justify.l0, if_pos (by omega), if_pos (by omega), if_pos (by omega), if_pos (by rw [jOut_len]; omega)]
    rw [Option.bind_some, w64s (n := l.length) (by omega) (by omega), if_neg (by omega), rd_nat]
    unfold fixed_Add.f
    rw [Option.bind_some, Option.bind_some]
    dsimp only
    have eA : jAt l at0 gap (i + 1) = addV (addV (jAt l at0 gap i) (l.getD i 0)) gap := rfl
    have eE : jEx l at0 gap ex (i + 1) = (jEx l at0 gap ex i && addB (jAt l at0 gap i) (l.getD i 0) && addB (addV (jAt l at0 gap i) (l.getD i 0)) gap) := rfl
    rw [jOut_succ, eE, eA]
    generalize addB (jAt l at0 gap i) (l.getD i 0) = b1
    generalize addB (addV (jAt l at0 gap i) (l.getD i 0)) gap = b2
    cases jEx l at0 gap ex i <;> cases b1 <;> cases b2 <;> simp
theorem jj_ev (l : List Int) (hn : l.length ≤ 1000) (at0 gap : Int) (ex : Bool) : Ev (fun k => flex_Justify.j1 k l ex at0 gap) (jV l at0 gap ex) := by
  refine Ev.step (f := fun k => flex_Justify.l0 k l ex at0 gap ([] : List Int) l (l.length : Int) 0) (fun k => by rw [flex_Justify.j1]) ?_
  by_cases h : l.length = 0
  · refine Ev.step (f := fun _ => some (jV l at0 gap ex)) (fun k => ?_) (Ev.now _)
    rw [flex_Justify.l0, if_neg (by omega)]
    unfold jV
    rw [h]
    rfl
  · exact jl_ev l hn at0 gap ex (l.length - 1) 0 (by omega)
def at0V (how over : Int) : Int := if how = 1 then over / 2 else if how = 2 then over else 0
def gapV (how over : Int) (n : Nat) : Int := if how = 3 then (if 1 < n then over / ((n : Int) - 1) else 0) else 0
def overV (l : List Int) (room : Int) : Int := max (subV room (sumV l)) 0
def justV (l : List Int) (room how : Int) : Res := jV l (at0V how (overV l room)) (gapV how (overV l room) l.length) (sumB l && subB room (sumV l))
theorem overV_bd (l : List Int) (room : Int) : 0 ≤ overV l room ∧ overV l room ≤ 1099511627776 := by
  have h := clampV_bd (clampV room - clampV (sumV l))
  have e : subV room (sumV l) = clampV (clampV room - clampV (sumV l)) := rfl
  unfold overV
  rw [e]
  omega
theorem just_ev (l : List Int) (hn : l.length ≤ 1000) (room how : Int) : Ev (fun k => flex_Justify.f k l room how) (justV l room how) := by
  obtain ⟨o0, o1⟩ := overV_bd l room
  unfold justV
  have J : ∀ ex, Ev (fun k => flex_Justify.j0 k l how (overV l room) ex) (jV l (at0V how (overV l room)) (gapV how (overV l room) l.length) ex) := fun ex => by
    unfold at0V gapV
    by_cases h1 : how = 1
    · rw [if_pos h1, if_neg (by omega)]
      refine Ev.step (fun k => ?_) (jj_ev l hn (overV l room / 2) 0 ex)
      rw [flex_Justify.j0, if_pos h1, Int.tdiv_eq_ediv_of_nonneg o0, w64 (by omega) (by omega)]
    · rw [if_neg h1]
      by_cases h2 : how = 2
      · rw [if_pos h2, if_neg (by omega)]
        refine Ev.step (fun k => ?_) (jj_ev l hn (overV l room) 0 ex)
        rw [flex_Justify.j0, if_neg h1, if_pos h2]
      · rw [if_neg h2]
        by_cases h3 : how = 3
        · rw [if_pos h3]
          by_cases h4 : 1 < l.length
          · rw [if_pos h4]
            refine Ev.step (fun k => ?_) (jj_ev l hn 0 (overV l room / ((l.length : Int) - 1)) ex)
            have q0 : 0 ≤ overV l room / ((l.length : Int) - 1) := Int.ediv_nonneg o0 (by omega)
            have q1 : overV l room / ((l.length : Int) - 1) ≤ overV l room := Int.ediv_le_self _ o0
            rw [flex_Justify.j0, if_neg h1, if_neg h2, if_pos h3, if_pos (by omega), w64 (n := (l.length : Int) - 1) (by omega) (by omega), if_neg (by omega), Int.tdiv_eq_ediv_of_nonneg o0, w64 (by omega) (by omega)]
          · rw [if_neg h4]
            refine Ev.step (fun k => ?_) (jj_ev l hn 0 0 ex)
            rw [flex_Justify.j0, if_neg h1, if_neg h2, if_pos h3, if_neg (by omega)]
        · rw [if_neg h3]
          refine Ev.step (fun k => ?_) (jj_ev l hn 0 0 ex)
          rw [flex_Justify.j0, if_neg h1, if_neg h2, if_neg h3]
  refine Ev.congr (fun k => ?_) (J (sumB l && subB room (sumV l)))
  unfold flex_Justify.f fixed_Sum.f fixed_Sub.f
  simp only [Option.bind_some]
  rw [mx_eq]
  have e : max (subV room (sumV l)) 0 = overV l room := rfl
  rw [e]
  cases sumB l <;> simp
/-! ### The same numbers -/
theorem same_ev (a : List Int) (hn : a.length ≤ 1000) : Ev (fun k => scrimlaw18_same.f k a a) true := by
  have L : ∀ d i, i + d = a.length → Ev (fun k => scrimlaw18_same.l0 k a a (a.length : Int) (i : Int)) true := by
    intro d
    induction d with
    | zero =>
      intro i h
      exact Ev.step (f := fun _ => some true) (fun k => by rw [scrimlaw18_same.l0, if_neg (by omega)]) (Ev.now _)
    | succ d ih =>
      intro i h
      refine Ev.step (fun k => ?_) (ih (i + 1) (by omega))
      rw [scrimlaw18_same.l0, if_pos (by omega), if_pos (by omega), if_pos (by omega), if_pos (by omega), if_pos rfl, w64s (n := a.length) (by omega) (by omega)]
  refine Ev.congr (fun k => ?_) (L a.length 0 (by omega))
  unfold scrimlaw18_same.f
  rw [if_pos rfl]
  rfl
theorem Same_ev (a : List Int) (hn : a.length ≤ 1000) : Ev (fun k => scrimref11_Same.f k a a) true := by
  have L : ∀ d i, i + d = a.length → Ev (fun k => scrimref11_Same.l0 k a a (i : Int)) true := by
    intro d
    induction d with
    | zero =>
      intro i h
      exact Ev.step (f := fun _ => some true) (fun k => by rw [scrimref11_Same.l0, if_neg (by omega)]) (Ev.now _)
    | succ d ih =>
      intro i h
      refine Ev.step (fun k => ?_) (ih (i + 1) (by omega))
      rw [scrimref11_Same.l0, if_pos (by omega), if_pos (by omega), if_pos (by omega), if_pos rfl, w64s (n := a.length) (by omega) (by omega)]
  refine Ev.congr (fun k => ?_) (L a.length 0 (by omega))
  unfold scrimref11_Same.f
  rw [if_pos rfl]
  rfl
theorem aw1 : flex_Share.f 5 [⟨20, 0, 64, 0⟩, ⟨30, 0, 64, 0⟩] 100 = some ([45, 55], true) := by kernel_rfl
theorem aw2 : flex_Share.f 5 [⟨10, 0, 0, 576⟩, ⟨100, 0, 0, 64⟩] 50 = some ([0, 50], true) := by kernel_rfl
theorem aw3 : justV [10, 20, 30] 71 3 = ([0, 15, 40], true) := by kernel_rfl
theorem aw4 : orderV [2, 1, 2, 1] = [1, 3, 0, 2] := by kernel_rfl
theorem awake_ev : Ev (fun k => scrimlaw18_awake.f k) true := by
  unfold scrimlaw18_awake.f
  refine Ev.bind (Ev.of (fun k => flex_Share.mono _ _ k) aw1) ?_
  refine Ev.bind (Ev.of (fun k => flex_Share.mono _ _ k) aw2) ?_
  have j := just_ev [10, 20, 30] (by simp) 71 3
  rw [aw3] at j
  refine Ev.bind j ?_
  refine Ev.bind (same_ev [45, 55] (by simp)) ?_
  refine Ev.congr (fun k => if_pos rfl) ?_
  refine Ev.congr (fun k => if_pos rfl) ?_
  refine Ev.bind (same_ev [0, 50] (by simp)) ?_
  refine Ev.congr (fun k => if_pos rfl) ?_
  refine Ev.congr (fun k => if_pos rfl) ?_
  refine Ev.bind (same_ev [0, 15, 40] (by simp)) ?_
  refine Ev.congr (fun k => if_pos rfl) ?_
  refine Ev.congr (fun k => if_pos rfl) ?_
  refine Ev.bind (g := fun _ => flex_Order.f [2, 1, 2, 1]) (a := [1, 3, 0, 2]) (Ev.congr (f := fun _ => some [1, 3, 0, 2]) (fun k => by unfold flex_Order.f; rw [if_pos (by simp), aw4]) (Ev.now _)) ?_
  exact Ev.bind (Same_ev [1, 3, 0, 2] (by simp)) (Ev.now _)
theorem order_f (l : List Int) (hn : l.length ≤ 1000) : flex_Order.f l = some (orderV l) := by unfold flex_Order.f; rw [if_pos (by omega)]
theorem shareL_len (its : List It) (room : Int) : ∀ g zs fs r res, shareL its room g zs fs r = some res → res.1.length = zs.length
  | 0, _, _, _, _, h => by simp [shareL] at h
  | g + 1, zs, fs, r, res, h => by
    rw [shareL] at h
    split at h
    · injection h with h
      rw [← h, givN_len]
    · dsimp only at h
      split at h
      · rw [shareL_len its room g _ _ _ res h, (frzN_len _ _ _).1, givN_len]
      · injection h with h
        rw [← h]
        dsimp only
        rw [(frzN_len _ _ _).1, givN_len]
/-! ### The program's Share always answers -/
def cf (f : List Bool) : Nat := f.count false
theorem frz_cf (i : Nat) (z : List Int) (f : List Bool) (ag : Bool) (hi : i < f.length) : cf (frz i (z, f, ag)).2.1 + (if (frz i (z, f, ag)).2.2 = true ∧ ag = false then 1 else 0) ≤ cf f := by
  unfold frz
  dsimp only
  by_cases h : f.getD i false = false ∧ z.getD i 0 < 0
  · rw [if_pos h]
    dsimp only
    have hb : f[i] = false := by have := h.1; simpa [List.getD, hi] using this
    unfold cf
    rw [List.count_set hi]
    have hc : 0 < f.count false := List.count_pos_iff.2 (hb ▸ List.getElem_mem hi)
    simp only [hb]
    cases ag <;> simp <;> omega
  · rw [if_neg h]
    dsimp only
    cases ag <;> simp
theorem frzN_cf : ∀ d i z f ag, i + d ≤ f.length → cf (frzN d i (z, f, ag)).2.1 + (if (frzN d i (z, f, ag)).2.2 = true ∧ ag = false then 1 else 0) ≤ cf f
  | 0, i, z, f, ag, h => by rw [frzN]; cases ag <;> simp
  | d + 1, i, z, f, ag, h => by
    rw [frzN]
    obtain ⟨⟨z1, f1, a1⟩, e⟩ : ∃ s, s = frz i (z, f, ag) := ⟨_, rfl⟩
    have h1 := frz_cf i z f ag (by omega)
    have hl := frz_len i (z, f, ag)
    rw [← e] at h1 hl ⊢
    dsimp only at h1 hl
    have h2 := frzN_cf d (i + 1) z1 f1 a1 (by omega)
    generalize frzN d (i + 1) (z1, f1, a1) = s2 at h2 ⊢
    obtain ⟨z2, f2, a2⟩ := s2
    dsimp only at h2 ⊢
    cases ag <;> cases a1 <;> cases a2 <;> simp at h1 h2 ⊢ <;> omega
theorem shareL_some (its : List It) (room : Int) : ∀ g zs fs r, zs.length = fs.length → cf fs < g → ∃ res, shareL its room g zs fs r = some res
  | 0, zs, fs, r, _, h => by omega
  | g + 1, zs, fs, r, hl, h => by
    rw [shareL]
    split
    · exact ⟨_, rfl⟩
    · dsimp only
      obtain ⟨⟨zs1, r1⟩, hg⟩ : ∃ s, s = givN true prS (-restV its zs fs room) (allTo prS its fs its.length) its fs its.length 0 (zs, r || !restB its zs fs room) := ⟨_, rfl⟩
      rw [← hg]
      have hl1 : zs1.length = fs.length := by
        have q := congrArg (fun s : List Int × Bool => s.1.length) hg
        simp only [givN_len] at q
        exact q.trans hl
      dsimp only
      rw [hl1]
      have h1 := frzN_cf fs.length 0 zs1 fs false (by omega)
      have h2 := frzN_len fs.length 0 (zs1, fs, false)
      generalize frzN fs.length 0 (zs1, fs, false) = s at h1 h2 ⊢
      obtain ⟨zs2, fs2, b2⟩ := s
      dsimp only at h1 h2 ⊢
      cases b2
      · rw [if_neg (by decide)]; exact ⟨_, rfl⟩
      · rw [if_pos rfl]
        simp at h1
        exact shareL_some its room g zs2 fs2 r1 (by omega) (by omega)
theorem getD_rd48 (l : List S48) (i : Nat) (h : i < l.length) : rd_T48 l (i : Int) = l[i] := by unfold rd_T48; rw [Int.toNat_natCast]; simp [List.getD, h]
end Go.Proofs.FlexR
namespace Go.Proofs.FlexR
open Go.RowKit Go.Proofs Go.Proofs.Prt Go.Proofs.Flx Go.Proofs.Stable Go.Proofs.FlexQ Go.Proofs.Ytdifaomkaekglaa.HR Go.Proofs.YtdifaomkaekglaaW.PrintWords Go.Proofs.YtdifaomkaekglaaW.PrintLast Go.Proofs.YtdifaomkaekglaaW.PrintMore
def okIt (x : S48) : Prop := (0 ≤ x.f0 ∧ 0 ≤ x.f1 ∧ 0 ≤ x.f2 ∧ 0 ≤ x.f3) ∧ x.f0 ≤ 1099511627776 ∧ x.f1 ≤ 1099511627776 ∧ x.f2 ≤ 6400 ∧ x.f3 ≤ 6400
theorem small_l (l : List S48) (hn : l.length ≤ 9223372036854775807) : ∀ d i, i + d = l.length → (∀ j, j < i → okIt (rd_T48 l (j : Int))) → ∃ b, Ev (fun k => scrimlaw18_small.l0 k l l (l.length : Int) (i : Int)) b ∧ (b = true → l.length ≤ 100 ∧ ∀ j, j < l.length → okIt (rd_T48 l (j : Int)))
  | 0, i, h, hp => by
    have e : i = l.length := by omega
    subst e
    refine ⟨decide ((l.length : Int) ≤ 100), Ev.step (f := fun _ => some (decide ((l.length : Int) ≤ 100))) (fun k => by rw [scrimlaw18_small.l0, if_neg (Int.lt_irrefl _)]) (Ev.now _), fun q => ⟨?_, hp⟩⟩
    have := of_decide_eq_true q
    omega
  | d + 1, i, h, hp => by
    have hi : i < l.length := by omega
    obtain ⟨x, hx⟩ : ∃ x, x = rd_T48 l (i : Int) := ⟨_, rfl⟩
    by_cases c1 : (mn (mn (mn (rd_T48 l (i : Int)).f0 (rd_T48 l (i : Int)).f1) (rd_T48 l (i : Int)).f2) (rd_T48 l (i : Int)).f3) < 0
    · exact ⟨false, Ev.step (f := fun _ => some false) (fun k => by rw [scrimlaw18_small.l0, if_pos (by omega), if_pos (by omega), if_pos (by omega), if_pos c1]) (Ev.now _), fun q => by cases q⟩
    · by_cases c2 : (mx (rd_T48 l (i : Int)).f0 (rd_T48 l (i : Int)).f1) > 1099511627776
      · exact ⟨false, Ev.step (f := fun _ => some false) (fun k => by rw [scrimlaw18_small.l0, if_pos (by omega), if_pos (by omega), if_pos (by omega), if_neg c1, if_pos c2]) (Ev.now _), fun q => by cases q⟩
      · by_cases c3 : (mx (rd_T48 l (i : Int)).f2 (rd_T48 l (i : Int)).f3) > 6400
        · exact ⟨false, Ev.step (f := fun _ => some false) (fun k => by rw [scrimlaw18_small.l0, if_pos (by omega), if_pos (by omega), if_pos (by omega), if_neg c1, if_neg c2, if_pos c3]) (Ev.now _), fun q => by cases q⟩
        · obtain ⟨b, hb, hq⟩ := small_l l hn d (i + 1) (by omega) (fun j hj => by
            by_cases e : j = i
            · rw [e]
              rw [mn_eq, mn_eq, mn_eq] at c1
              rw [mx_eq] at c2 c3
              unfold okIt
              omega
            · exact hp j (by omega))
          refine ⟨b, Ev.step (fun k => ?_) hb, hq⟩
          rw [scrimlaw18_small.l0, if_pos (by omega), if_pos (by omega), if_pos (by omega), if_neg c1, if_neg c2, if_neg c3, w64s (n := l.length) hi hn]
theorem its_get (l : List S48) (i : Nat) : (l.map flex_Share.it).getD i zIt = flex_Share.it (rd_T48 l (i : Int)) := by
  unfold rd_T48
  rw [Int.toNat_natCast]
  by_cases h : i < l.length
  · simp [List.getD, h]
  · simp only [List.getD, List.getElem?_map, List.getElem?_eq_none (show l.length ≤ i by omega)]; rfl
theorem smalls (l : List S48) (hn : l.length ≤ 100) (h : ∀ j, j < l.length → okIt (rd_T48 l (j : Int))) : Smalls (l.map flex_Share.it) ∧ (l.map flex_Share.it).map cntd = l.map flex_Share.it := by
  have all : ∀ i : Nat, okIt (rd_T48 l (i : Int)) := fun i => by
    by_cases hi : i < l.length
    · exact h i hi
    · have e : rd_T48 l (i : Int) = z48 := by
        unfold rd_T48
        rw [Int.toNat_natCast]
        simp only [List.getD, List.getElem?_eq_none (show l.length ≤ i by omega)]; rfl
      rw [e]
      unfold okIt z48
      simp
  refine ⟨⟨by rw [List.length_map]; exact hn, fun i => ?_, fun i => ?_, fun i => ?_, fun i => ?_⟩, ?_⟩
  · rw [its_get]; have := all i; unfold okIt at this; exact ⟨this.1.1, this.2.1⟩
  · rw [its_get]; have := all i; unfold okIt at this; exact ⟨this.1.2.1, this.2.2.1⟩
  · rw [its_get]; have := all i; unfold okIt at this; exact ⟨this.1.2.2.1, this.2.2.2.1⟩
  · rw [its_get]; have := all i; unfold okIt at this; exact ⟨this.1.2.2.2, this.2.2.2.2⟩
  · rw [List.map_map]
    refine List.map_congr_left fun x hx => ?_
    obtain ⟨i, hi, rfl⟩ := List.mem_iff_getElem.1 hx
    have q := h i hi
    rw [getD_rd48 l i hi] at q
    obtain ⟨⟨a0, a1, a2, a3⟩, b0, b1, b2, b3⟩ := q
    show cntd (flex_Share.it l[i]) = flex_Share.it l[i]
    unfold cntd flex_Share.it szV wtV
    dsimp only
    rw [if_neg (by omega), if_pos b0, if_neg (by omega), if_pos b1, if_neg (by omega), if_pos b2, if_neg (by omega), if_pos b3]
/-- Share at such items. -/
theorem share_small (l : List S48) (hn : l.length ≤ 100) (room : Int) (hc : (l.map flex_Share.it).map cntd = l.map flex_Share.it) : ∃ res : Res, Ev (fun k => flex_Share.f k l room) res ∧ shareL (l.map flex_Share.it) room (l.length + 1) (List.replicate l.length 0) (List.replicate l.length false) false = some res ∧ res.1.length = l.length := by
  obtain ⟨res, hr⟩ := shareL_some (l.map flex_Share.it) room (l.length + 1) (List.replicate l.length 0) (List.replicate l.length false) false (by simp) (by unfold cf; rw [List.count_replicate_self]; omega)
  refine ⟨res, Ev.of (fun k => flex_Share.mono l room k) (k := l.length + 1) ?_, hr, ?_⟩
  · unfold flex_Share.f
    rw [if_pos hn, List.length_map, hc]
    exact hr
  · rw [shareL_len _ _ _ _ _ _ _ hr, List.length_replicate]
theorem start_inv (l : List S48) : AInv (l.map flex_Share.it) (List.replicate l.length 0) (List.replicate l.length false) := by
  have f0 : ∀ i, (List.replicate l.length false).getD i false = false := fun i => by
    simp only [List.getD, List.getElem?_replicate]
    split <;> rfl
  exact ⟨by simp, by simp, fun i hi => (by rw [f0] at hi; exact absurd hi (by decide)), fun i k _ _ _ hi => (by rw [f0] at hi; exact absurd hi (by decide)), fun i _ _ => f0 i⟩
section
variable {l : List S48} {sz : List Int} (hn : l.length ≤ 100) (hl : sz.length = l.length)
  (A : ∀ i, i < l.length → (rd_T48 l (i : Int)).f2 = 0 → (rd_T48 l (i : Int)).f3 = 0 → sz.getD i 0 = (rd_T48 l (i : Int)).f0)
  (M : ∀ i k, i < l.length → k < l.length → (rd_T48 l (i : Int)).f0 = (rd_T48 l (k : Int)).f0 → (rd_T48 l (k : Int)).f2 ≤ (rd_T48 l (i : Int)).f2 → (rd_T48 l (i : Int)).f3 ≤ (rd_T48 l (k : Int)).f3 → sz.getD k 0 ≤ sz.getD i 0)
include hn hl M in
theorem al1 (i : Nat) (hi : i < l.length) (H : Ev (fun k => scrimlaw18_FlexAlike.l0 k l sz l (l.length : Int) ((i + 1 : Nat) : Int)) true) : ∀ d j, j + d = l.length →
    Ev (fun k => scrimlaw18_FlexAlike.l1 k l sz (i : Int) l (l.length : Int) (i : Int) l (l.length : Int) (j : Int) (rd_T48 l (i : Int)).f0 (rd_T48 l (i : Int)).f1 (rd_T48 l (i : Int)).f2 (rd_T48 l (i : Int)).f3) true
  | 0, j, h => by
    refine Ev.step (fun k => ?_) H
    rw [scrimlaw18_FlexAlike.l1, if_neg (by omega), w64s (n := l.length) hi (by omega)]
  | d + 1, j, h => by
    have ih := al1 i hi H d (j + 1) (by omega)
    have hj : j < l.length := by omega
    have m1 := M i j hi hj
    have m2 := M j i hj hi
    have J : Ev (fun k => scrimlaw18_FlexAlike.j3 k l sz (i : Int) (j : Int) l (l.length : Int) (i : Int) l (l.length : Int) (j : Int) false (rd_T48 l (i : Int)).f0 (rd_T48 l (i : Int)).f1 (rd_T48 l (i : Int)).f2 (rd_T48 l (i : Int)).f3 (rd_T48 l (j : Int)).f0 (rd_T48 l (j : Int)).f1 (rd_T48 l (j : Int)).f2 (rd_T48 l (j : Int)).f3) true := by
      refine Ev.step (fun k => ?_) ih
      rw [scrimlaw18_FlexAlike.j3, if_neg (by decide), w64s (n := l.length) hj (by omega)]
      by_cases c1 : (rd_T48 l (i : Int)).f0 = (rd_T48 l (j : Int)).f0
      · rw [if_pos c1]
        by_cases c2 : (rd_T48 l (i : Int)).f2 ≥ (rd_T48 l (j : Int)).f2
        · rw [if_pos c2]
          by_cases c3 : (rd_T48 l (i : Int)).f3 ≤ (rd_T48 l (j : Int)).f3
          · have q := m1 c1 c2 c3
            rw [if_pos c3, if_pos (by omega), if_pos (by omega), if_pos (by omega), if_pos (by omega), rd_nat, rd_nat, if_neg (by omega)]
          · rw [if_neg c3]
        · rw [if_neg c2]
      · rw [if_neg c1]
    refine Ev.step (fun k => ?_) J
    rw [scrimlaw18_FlexAlike.l1, if_pos (by omega), if_pos (by omega), if_pos (by omega)]
    by_cases c1 : (rd_T48 l (i : Int)).f0 = (rd_T48 l (j : Int)).f0
    · rw [if_pos c1]
      by_cases c2 : (rd_T48 l (i : Int)).f2 = (rd_T48 l (j : Int)).f2
      · rw [if_pos c2]
        by_cases c3 : (rd_T48 l (i : Int)).f3 = (rd_T48 l (j : Int)).f3
        · have q1 := m1 c1 (by omega) (by omega)
          have q2 := m2 c1.symm (by omega) (by omega)
          have e : sz.getD i 0 = sz.getD j 0 := by omega
          have eb : (sz.getD i 0 != sz.getD j 0) = false := by rw [e]; simp
          rw [if_pos c3, if_pos (by omega), if_pos (by omega), if_pos (by omega), rd_nat, rd_nat, eb]
        · rw [if_neg c3]
      · rw [if_neg c2]
    · rw [if_neg c1]
include hn hl A M in
theorem al0 : ∀ d i, i + d = l.length → Ev (fun k => scrimlaw18_FlexAlike.l0 k l sz l (l.length : Int) (i : Int)) true
  | 0, i, h => Ev.step (f := fun _ => some true) (fun k => by rw [scrimlaw18_FlexAlike.l0, if_neg (by omega)]) (Ev.now _)
  | d + 1, i, h => by
    have ih := al0 d (i + 1) (by omega)
    have hi : i < l.length := by omega
    have h1 := al1 hn hl M i hi ih l.length 0 (by omega)
    have J : Ev (fun k => scrimlaw18_FlexAlike.j1 k l sz (i : Int) l (l.length : Int) (i : Int) false (rd_T48 l (i : Int)).f0 (rd_T48 l (i : Int)).f1 (rd_T48 l (i : Int)).f2 (rd_T48 l (i : Int)).f3) true :=
      Ev.step (fun k => by rw [scrimlaw18_FlexAlike.j1, if_neg (by decide)]; rfl) h1
    refine Ev.step (fun k => ?_) J
    rw [scrimlaw18_FlexAlike.l0, if_pos (by omega), if_pos (by omega), if_pos (by omega)]
    by_cases c1 : (rd_T48 l (i : Int)).f2 = 0
    · rw [if_pos c1]
      by_cases c2 : (rd_T48 l (i : Int)).f3 = 0
      · have e := A i hi c1 c2
        have eb : (sz.getD i 0 != (rd_T48 l (i : Int)).f0) = false := by rw [e]; simp
        rw [if_pos c2, if_pos (by omega), rd_nat, eb]
      · rw [if_neg c2]
    · rw [if_neg c1]
end
/-- FlexAlike. -/
theorem FlexAlike (l : List S48) (room : Int) (hb : l.length ≤ 9223372036854775807) : ∃ k, scrimlaw18_FlexAlike.f k l room = some true := by
  refine Ev.rounds ?_
  unfold scrimlaw18_FlexAlike.f
  refine Ev.bind awake_ev ?_
  refine Ev.congr (fun k => if_pos rfl) ?_
  obtain ⟨b, h1, h2⟩ := small_l l hb l.length 0 (by omega) (fun j hj => by omega)
  refine Ev.bind (g := fun k => scrimlaw18_small.f k l) h1 ?_
  cases b
  · exact Ev.congr (f := fun _ => some true) (fun k => if_neg (by decide)) (Ev.now _)
  · refine Ev.congr (fun k => if_pos rfl) ?_
    obtain ⟨hn, hok⟩ := h2 rfl
    obtain ⟨hS, hc⟩ := smalls l hn hok
    obtain ⟨res, e1, e2, e3⟩ := share_small l hn room hc
    refine Ev.bind e1 ?_
    refine Ev.congr (fun k => if_pos (by rw [e3])) ?_
    have hlen : (l.map flex_Share.it).length = l.length := List.length_map ..
    obtain ⟨A, M⟩ := alike (l.map flex_Share.it) hS room _ _ _ _ _ (start_inv l) e2
    refine al0 hn e3 (fun i hi g1 g2 => ?_) (fun i k hi hk g1 g2 g3 => ?_) l.length 0 (by omega)
    · have q := A i (by omega) ⟨by rw [its_get]; exact g1, by rw [its_get]; exact g2⟩
      rw [its_get] at q
      exact q
    · exact M i k (by omega) (by omega) ⟨by rw [its_get, its_get]; exact g1, by rw [its_get, its_get]; exact g2, by rw [its_get, its_get]; exact g3⟩
end Go.Proofs.FlexR
