/- BlockStacks returns true for every list of items: the pure half over the printed functions; no condition. -/
import Derived.Test.YtdifaomkaekglaaHB3
namespace Go.Proofs.Ytdifaomkaekglaa.PureStacks
open Go.RowKit Go.Proofs.Ytdifaomkaekglaa.HB Go.Proofs.YtdifaomkaekglaaW.PrintWords Go.Proofs.YtdifaomkaekglaaW.PrintLast

def mV (a b : Int) : Int := if 0 ≤ a then (if 0 ≤ b then mx a b else addV a b) else (if b < 0 then mn a b else addV a b)
def mB (a b : Int) : Bool := if 0 ≤ a then (if 0 ≤ b then true else addB a b) else (if b < 0 then true else addB a b)
theorem add_f (a b : Int) : fixed_Add.f a b = some (addV a b, addB a b) := rfl
theorem meet_all (a b : Int) (k : Nat) : block_Meet.f (k + 1) a b = some (mV a b, mB a b) := by
  unfold block_Meet.f mV mB
  by_cases h : 0 ≤ a
  · rw [if_pos h, if_pos h, if_pos h]
    by_cases h2 : 0 ≤ b
    · rw [if_pos h2, if_pos h2]
      simp only [block_Meet.j0]
      rw [if_pos (by simpa using h2)]
    · rw [if_neg h2, if_neg h2]
      simp only [block_Meet.j0]
      rw [if_neg (by simpa using h2), if_neg (by omega), add_f]
      rfl
  · rw [if_neg h, if_neg h, if_neg h]
    simp only [block_Meet.j0]
    rw [if_neg (by simp), if_pos (by omega)]
    by_cases h2 : b < 0
    · rw [if_pos h2, if_pos h2, if_pos h2]
    · rw [if_neg h2, if_neg h2, if_neg h2, add_f]
      rfl
/-- what an exact sum says -/
theorem addB_in {a b : Int} (h : addB a b = true) : -1099511627776 ≤ a ∧ a ≤ 1099511627776 ∧ -1099511627776 ≤ b ∧ b ≤ 1099511627776 ∧ -1099511627776 ≤ a + b ∧ a + b ≤ 1099511627776 ∧ addV a b = a + b := by
  unfold addB at h
  simp only [Bool.and_eq_true, clampB_iff] at h
  obtain ⟨⟨⟨h1, h2⟩, h3, h4⟩, h5, h6⟩ := h
  rw [clampV_t h3 h4, clampV_t h5 h6] at h1 h2
  refine ⟨h3, h4, h5, h6, h1, h2, ?_⟩
  unfold addV
  rw [clampV_t h3 h4, clampV_t h5 h6, clampV_t h1 h2]
def gapV (i b t : Int) : Int := if i > 0 then mV b t else t
def gapB (i b t : Int) : Bool := if i > 0 then mB b t else true
/-- One round. -/
theorem stack_step (k : Nat) (out : List Int) (e b : Int) (x : Bool) (l : List S32) (i : Int) (h0 : 0 ≤ i) (h1 : i < (l.length : Int)) (hn : l.length ≤ 200) (ho : out.length ≤ 200) :
    block_Stack.l0 (k + 1 + 1) out e b x l (l.length : Int) i =
      block_Stack.l0 (k + 1) (out ++ [addV e (gapV i b (rd_T32 l i).f0)]) (addV (addV e (gapV i b (rd_T32 l i).f0)) (rd_T32 l i).f1) (rd_T32 l i).f2
        (x && gapB i b (rd_T32 l i).f0 && addB e (gapV i b (rd_T32 l i).f0) && addB (addV e (gapV i b (rd_T32 l i).f0)) (rd_T32 l i).f1) l (l.length : Int) (i + 1) := by
  have hw : wrap64 (i + 1) = i + 1 := by unfold wrap64; omega
  rw [block_Stack.l0]
  rw [if_pos h1, if_pos h0, if_pos h1]
  by_cases hi : i > 0
  · rw [if_pos hi, meet_all]
    simp only [Option.bind_some, add_f]
    rw [if_pos (by omega), hw]
    unfold gapV gapB
    rw [if_pos hi, if_pos hi]
    cases x with
    | false => simp
    | true =>
      cases mB b (rd_T32 l i).f0 with
      | false => simp
      | true =>
        cases addB e (mV b (rd_T32 l i).f0) <;> simp
  · rw [if_neg hi]
    simp only [Option.bind_some, add_f]
    rw [if_pos (by omega), hw]
    unfold gapV gapB
    rw [if_neg hi, if_neg hi]
    cases x with
    | false => simp
    | true =>
      cases addB e (rd_T32 l i).f0 <;> simp
/-- What the places tell, from item i on, if all was exact. -/
def Rel (l : List S32) : List Int → Int → Int → Int → Int → Prop
  | [], _, e, b, hi => addB e b = true ∧ hi = mx (e + b) 0
  | o :: r, i, e, b, hi => gapB i b (rd_T32 l i).f0 = true ∧ addB e (gapV i b (rd_T32 l i).f0) = true ∧ o = e + gapV i b (rd_T32 l i).f0 ∧ addB o (rd_T32 l i).f1 = true ∧ Rel l r (i + 1) (o + (rd_T32 l i).f1) (rd_T32 l i).f2 hi
theorem stack_run (l : List S32) (hn : l.length ≤ 200) (d : Nat) : ∀ (k : Nat) (out : List Int) (e b : Int) (x : Bool) (i : Int), 0 ≤ i → (l.length : Int) - i = d → (out.length : Int) = i →
    ∃ outs hi ex, block_Stack.l0 (d + 1 + 1 + k) out e b x l (l.length : Int) i = some (out ++ outs, hi, ex) ∧ outs.length = d ∧ (ex = true → x = true ∧ Rel l outs i e b hi) := by
  induction d with
  | zero =>
    intro k out e b x i h0 hd ho
    rw [show 0 + 1 + 1 + k = (k + 1) + 1 by omega, block_Stack.l0, if_neg (by omega)]
    simp only [add_f, Option.bind_some]
    cases x with
    | false => exact ⟨[], mx (addV e b) 0, false, by simp, rfl, fun h => by cases h⟩
    | true =>
      refine ⟨[], mx (addV e b) 0, addB e b, by simp, rfl, fun h => ⟨rfl, h, ?_⟩⟩
      rw [(addB_in h).2.2.2.2.2.2]
  | succ d ih =>
    intro k out e b x i h0 hd ho
    rw [show d + 1 + 1 + 1 + k = (d + 1 + k) + 1 + 1 by omega, stack_step _ out e b x l i h0 (by omega) hn (by omega)]
    obtain ⟨outs, hi, ex, h1, h2, h3⟩ := ih k (out ++ [addV e (gapV i b (rd_T32 l i).f0)]) (addV (addV e (gapV i b (rd_T32 l i).f0)) (rd_T32 l i).f1) (rd_T32 l i).f2
      (x && gapB i b (rd_T32 l i).f0 && addB e (gapV i b (rd_T32 l i).f0) && addB (addV e (gapV i b (rd_T32 l i).f0)) (rd_T32 l i).f1) (i + 1) (by omega) (by omega) (by simp; omega)
    refine ⟨addV e (gapV i b (rd_T32 l i).f0) :: outs, hi, ex, ?_, by simp [h2], fun h => ?_⟩
    · rw [show d + 1 + k + 1 = d + 1 + 1 + k by omega, h1]; simp
    · obtain ⟨hx, hr⟩ := h3 h
      simp only [Bool.and_eq_true] at hx
      obtain ⟨⟨⟨x1, x2⟩, x3⟩, x4⟩ := hx
      have e1 := (addB_in x3).2.2.2.2.2.2
      have e2 := (addB_in x4).2.2.2.2.2.2
      rw [e2] at hr
      refine ⟨x1, x2, x3, e1, x4, hr⟩
theorem rd_app (pre outs : List Int) (i : Int) (h0 : 0 ≤ i) (h : i < (pre.length : Int)) : rd (pre ++ outs) i = rd pre i := by
  unfold rd
  rw [List.getD_eq_getElem?_getD, List.getD_eq_getElem?_getD, List.getElem?_append_left (by omega)]
theorem rd_at (pre : List Int) (o : Int) (r : List Int) (i : Int) (h : (pre.length : Int) = i) : rd (pre ++ o :: r) i = o := by
  unfold rd
  rw [List.getD_eq_getElem?_getD, List.getElem?_append_right (by omega)]
  have : i.toNat - pre.length = 0 := by omega
  rw [this]; rfl
/-- the law's loop, from item i on -/
theorem law_run (l : List S32) (hn : l.length ≤ 200) (hi : Int) : ∀ (outs pre : List Int) (k : Nat) (e b : Int) (plain : Bool) (sum i : Int), 0 ≤ i → (pre.length : Int) = i → (l.length : Int) = i + outs.length → Rel l outs i e b hi →
    (i = 0 → e = 0 ∧ b = 0) → (0 < i → e = rd pre (i - 1) + (rd_T32 l (i - 1)).f1 ∧ b = (rd_T32 l (i - 1)).f2) → (plain = true → sum = e ∧ b = 0) →
    scrimlaw17_BlockStacks.l0 (2 * outs.length + 2 + k) l (pre ++ outs) hi plain sum l (l.length : Int) i = some true := by
  intro outs
  induction outs with
  | nil =>
    intro pre k e b plain sum i h0 hp hl hr hz hs hpl
    obtain ⟨r1, r2⟩ := hr
    obtain ⟨a1, a2, a3, a4, a5, a6, _⟩ := addB_in r1
    rw [show 2 * ([] : List Int).length + 2 + k = (k + 1) + 1 by simp; omega, scrimlaw17_BlockStacks.l0]
    simp only [List.length_nil, List.append_nil] at hl ⊢
    rw [if_neg (by omega)]
    by_cases hl0 : (l.length : Int) = 0
    · rw [if_pos hl0, r2, (hz (by omega)).1, (hz (by omega)).2]
      rfl
    · rw [if_neg hl0]
      obtain ⟨e1, e2⟩ := hs (by omega)
      have hw : wrap64 ((l.length : Int) - 1) = i - 1 := by unfold wrap64; omega
      rw [hw, if_pos (by omega), if_pos (by omega), if_pos (by omega), ← e1, ← e2]
      have w1 : wrap64 e = e := by unfold wrap64; omega
      have w2 : wrap64 (e + b) = e + b := by unfold wrap64; omega
      rw [w1, w2, if_pos r2]
      cases plain with
      | false => rfl
      | true =>
        obtain ⟨p1, p2⟩ := hpl rfl
        rw [if_pos rfl, r2, p1, p2]
        simp
  | cons o r ih =>
    intro pre k e b plain sum i h0 hp hl hr hz hs hpl
    obtain ⟨r1, r2, r3, r4, r5⟩ := hr
    obtain ⟨a1, a2, a3, a4, a5, a6, _⟩ := addB_in r2
    obtain ⟨b1, b2, b3, b4, b5, b6, _⟩ := addB_in r4
    simp only [List.length_cons] at hl
    have hlt : i < (l.length : Int) := by omega
    -- the rest, whatever the flag
    have rest : ∀ (k' : Nat) (plain' : Bool) (sum' : Int), (plain' = true → sum' = o + (rd_T32 l i).f1 ∧ (rd_T32 l i).f2 = 0) →
        scrimlaw17_BlockStacks.l0 (2 * r.length + 2 + k') l (pre ++ o :: r) hi plain' sum' l (l.length : Int) (i + 1) = some true := by
      intro k' plain' sum' hp'
      have h := ih (pre ++ [o]) k' (o + (rd_T32 l i).f1) (rd_T32 l i).f2 plain' sum' (i + 1) (by omega) (by simp; omega) (by omega) r5 (by omega)
        (fun _ => ⟨by rw [show i + 1 - 1 = i by omega, rd_at pre o [] i hp], by rw [show i + 1 - 1 = i by omega]⟩) hp'
      rw [List.append_assoc] at h
      exact h
    have hw : wrap64 (i + 1) = i + 1 := by unfold wrap64; omega
    -- one round with the flag as it is reckoned
    have round : ∀ (plain' : Bool), (plain' = true → plain = true ∧ (rd_T32 l i).f0 = 0 ∧ (rd_T32 l i).f2 = 0) →
        scrimlaw17_BlockStacks.j1 (2 * r.length + 2 + k + 1) l (pre ++ o :: r) hi plain' sum i l (l.length : Int) i (rd_T32 l i).f0 (rd_T32 l i).f1 (rd_T32 l i).f2 = some true := by
      intro plain' hpl'
      have hsum : plain' = true → wrap64 (sum + (rd_T32 l i).f1) = o + (rd_T32 l i).f1 ∧ (rd_T32 l i).f2 = 0 := by
        intro h
        obtain ⟨q1, q2, q3⟩ := hpl' h
        obtain ⟨s1, s2⟩ := hpl q1
        have hg : gapV i b (rd_T32 l i).f0 = 0 := by
          rw [q2, s2]; unfold gapV mV mx; (repeat' split) <;> omega
        rw [hg] at r3
        refine ⟨?_, q3⟩
        rw [s1, show e + (rd_T32 l i).f1 = o + (rd_T32 l i).f1 by omega]
        unfold wrap64; omega
      rw [scrimlaw17_BlockStacks.j1]
      have hlen : (((pre ++ o :: r).length : Nat) : Int) = l.length := by simp; omega
      by_cases hi0 : i = 0
      · rw [if_pos hi0, if_pos (by omega)]
        have hg : gapV i b (rd_T32 l i).f0 = (rd_T32 l i).f0 := by unfold gapV; rw [if_neg (by omega)]
        have h00 : rd (pre ++ o :: r) 0 = o := rd_at pre o r 0 (by omega)
        rw [h00, if_pos (by rw [r3, hg, (hz hi0).1]; omega), hw]
        exact rest k plain' _ hsum
      · rw [if_neg hi0]
        have hw1 : wrap64 (i - 1) = i - 1 := by unfold wrap64; omega
        obtain ⟨e1, e2⟩ := hs (by omega)
        have hgb : gapB i b (rd_T32 l i).f0 = mB b (rd_T32 l i).f0 := by unfold gapB; rw [if_pos (by omega)]
        have hgv : gapV i b (rd_T32 l i).f0 = mV b (rd_T32 l i).f0 := by unfold gapV; rw [if_pos (by omega)]
        rw [hgb] at r1
        rw [hgv] at r3 a3 a4 a5 a6
        rw [hw1, if_pos (by omega), if_pos (by omega), show 2 * r.length + 2 + k = (2 * r.length + 1 + k) + 1 by omega, meet_all, ← e2]
        simp only [Option.bind_some]
        rw [if_pos r1, if_pos h0, if_pos (by omega), if_pos (by omega), rd_at pre o r i hp, rd_app pre (o :: r) (i - 1) (by omega) (by omega), ← e1]
        have w1 : wrap64 e = e := by unfold wrap64; omega
        have w2 : wrap64 (e + mV b (rd_T32 l i).f0) = e + mV b (rd_T32 l i).f0 := by unfold wrap64; omega
        rw [w1, w2, if_pos r3, hw, show 2 * r.length + 1 + k + 1 = 2 * r.length + 2 + k by omega]
        exact rest k plain' _ hsum
    rw [show 2 * (o :: r).length + 2 + k = (2 * r.length + 2 + k + 1) + 1 by simp; omega, scrimlaw17_BlockStacks.l0]
    rw [if_pos hlt, if_pos h0, if_pos hlt]
    cases plain with
    | false =>
      rw [if_neg (by simp)]
      exact round false (fun h => by cases h)
    | true =>
      rw [if_pos rfl]
      by_cases hf : (rd_T32 l i).f0 = 0
      · rw [if_pos hf]
        exact round _ (fun h => ⟨rfl, hf, by simpa using h⟩)
      · rw [if_neg hf]
        exact round false (fun h => by cases h)
theorem BlockStacks (l : List S32) : ∃ k, scrimlaw17_BlockStacks.f k l = some true := by
  by_cases hn : (l.length : Int) > 200
  · refine ⟨0, ?_⟩
    unfold scrimlaw17_BlockStacks.f scrimlaw17_awake.f
    simp only [Option.bind_some, if_true]
    rw [if_pos hn]
  · obtain ⟨outs, hi, ex, h1, h2, h3⟩ := stack_run l (by omega) l.length (l.length) [] 0 0 true 0 (by omega) (by omega) rfl
    refine ⟨2 * l.length + 2, ?_⟩
    unfold scrimlaw17_BlockStacks.f scrimlaw17_awake.f block_Stack.f
    simp only [Option.bind_some, if_true]
    rw [if_neg hn, show 2 * l.length + 2 = l.length + 1 + 1 + l.length by omega, h1]
    simp only [Option.bind_some, List.nil_append]
    rw [if_pos (by omega)]
    cases ex with
    | false => rfl
    | true =>
      rw [if_pos rfl]
      obtain ⟨_, hr⟩ := h3 rfl
      have h := law_run l (by omega) hi outs [] 0 0 0 true 0 0 (by omega) rfl (by omega) hr (fun _ => ⟨rfl, rfl⟩) (fun h => absurd h (by omega)) (fun _ => ⟨rfl, rfl⟩)
      rw [show l.length + 1 + 1 + l.length = 2 * outs.length + 2 + 0 by omega]
      exact h
end Go.Proofs.Ytdifaomkaekglaa.PureStacks
