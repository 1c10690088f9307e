/- Plain lemmas over the printed functions: the document's Share, Justify and Order answer as the program's; FlexTells's plain half; no condition beside those that each theorem states. -/
import Derived.Test.YtdifaomkaekglaaPS
import Derived.Test.YtdifaomkaekglaaHF5
namespace Go.Proofs.FlexP
open Go.RowKit Go.Proofs Go.Proofs.Prt Go.Proofs.Flx Go.Proofs.Stable Go.Proofs.Ytdifaomkaekglaa.HF Go.Proofs.YtdifaomkaekglaaW.PrintWords Go.Proofs.YtdifaomkaekglaaW.PrintLast Go.Proofs.YtdifaomkaekglaaW.PrintMore
set_option linter.unusedVariables false
set_option linter.unusedSimpArgs false
def it74 (x : S74) : It := (x.f0, x.f1, x.f2, x.f3)
theorem it74_get (L : List S74) (i : Nat) : (L.map it74).getD i zIt = it74 (rd_T74 L (i : Int)) := by
  unfold rd_T74
  rw [Int.toNat_natCast]
  by_cases h : i < L.length
  · simp [List.getD, h]
  · simp only [List.getD, List.getElem?_map, List.getElem?_eq_none (show L.length ≤ i by omega)]; rfl
theorem rdOf_nat {α : Type} (d : α) (xs : List α) (i : Nat) : rdOf d xs (i : Int) = xs.getD i d := by unfold rdOf; rw [Int.toNat_natCast]
structure Ok74 (L : List S74) : Prop where
  n : L.length ≤ 100
  b : ∀ i : Nat, 0 ≤ (rd_T74 L (i : Int)).f0 ∧ (rd_T74 L (i : Int)).f0 ≤ 1099511627776
  g : ∀ i : Nat, 0 ≤ (rd_T74 L (i : Int)).f2 ∧ (rd_T74 L (i : Int)).f2 ≤ 6400
  s : ∀ i : Nat, 0 ≤ (rd_T74 L (i : Int)).f3 ∧ (rd_T74 L (i : Int)).f3 ≤ 6400
theorem Ok74.all {L : List S74} (h : Ok74 L) (fs : List Bool) (i : Nat) (hi : i ≤ L.length) : (0 ≤ allTo prG (L.map it74) fs i ∧ allTo prG (L.map it74) fs i ≤ 640000) ∧ (0 ≤ allTo prS (L.map it74) fs i ∧ allTo prS (L.map it74) fs i ≤ 640000) := by
  have hn := h.n
  have h1 := allTo_bd prG (L.map it74) fs (fun i => by rw [it74_get]; exact h.g i) i
  have h2 := allTo_bd prS (L.map it74) fs (fun i => by rw [it74_get]; exact h.s i) i
  omega
theorem l2_ev {L : List S74} (hL : Ok74 L) (room : Int) (zs : List Int) (fs : List Bool) (ex ag : Bool) (res : Res) (hz : zs.length = L.length) (hf : fs.length = L.length)
    (H : Ev (fun k => scrimref18_Share.l3 k room L zs fs (ex && restB (L.map it74) zs fs room) ag (allTo prG (L.map it74) fs L.length) (allTo prS (L.map it74) fs L.length) (restV (L.map it74) zs fs room) 0) res) :
    ∀ d i, i + d = L.length → Ev (fun k => scrimref18_Share.l2 k room L zs fs ex ag (partsTo (L.map it74) zs fs i) (allTo prG (L.map it74) fs i) (allTo prS (L.map it74) fs i) (i : Int)) res
  | 0, i, h => by
    have hn := hL.n
    have e : i = L.length := by omega
    subst e
    have hS := rSum (partsTo (L.map it74) zs fs L.length) (by rw [partsTo_len]; omega)
    refine Ev.step (f := fun k => (scrimref01_Sum.f k (partsTo (L.map it74) zs fs L.length)).bind fun bt230 => ((scrimref01_Sub.f room bt230.1).bind fun bt232 => (if ex = true then (if bt230.2 = true then (scrimref18_Share.j3 k room L zs fs bt232.2 ag (allTo prG (L.map it74) fs L.length) (allTo prS (L.map it74) fs L.length) bt232.1) else (scrimref18_Share.j3 k room L zs fs false ag (allTo prG (L.map it74) fs L.length) (allTo prS (L.map it74) fs L.length) bt232.1)) else (scrimref18_Share.j3 k room L zs fs false ag (allTo prG (L.map it74) fs L.length) (allTo prS (L.map it74) fs L.length) bt232.1)))) (fun k => ?_) ?_
    · rw [scrimref18_Share.l2, if_neg (Int.lt_irrefl _)]
    · refine Ev.bind hS ?_
      have hr : (L.map it74).length = L.length := List.length_map ..
      refine Ev.congr (f := fun k => scrimref18_Share.j3 k room L zs fs (ex && restB (L.map it74) zs fs room) ag (allTo prG (L.map it74) fs L.length) (allTo prS (L.map it74) fs L.length) (restV (L.map it74) zs fs room)) (fun k => ?_) (Ev.step (fun k => by rw [scrimref18_Share.j3]) H)
      rw [rSub]
      simp only [Option.bind_some]
      unfold restV restB
      rw [hr]
      generalize sumB (partsTo (L.map it74) zs fs L.length) = b1
      cases ex <;> cases b1 <;> simp
  | d + 1, i, h => by
    have hn := hL.n
    have ih := l2_ev hL room zs fs ex ag res hz hf H d (i + 1) (by omega)
    have ha := hL.all fs i (by omega)
    have hg := hL.g i
    have hs := hL.s i
    have hi : i < L.length := by omega
    refine Ev.step (fun k => ?_) ih
    rw [scrimref18_Share.l2, if_pos (by omega), if_pos (by omega), if_pos (by omega), rdOf_nat, rd_nat, w64s hi (by omega)]
    rw [partsTo, allTo, allTo, part1, it74_get]
    cases hb : fs.getD i false
    · rw [if_neg (by decide), if_neg (by decide), if_neg (by decide), if_neg (by decide)]
      simp only [Option.bind_some]
      rw [if_pos (by rw [partsTo_len]; simp only [List.length_cons, List.length_nil]; omega), w64 (by omega) (by omega), w64 (by omega) (by omega)]
      rfl
    · rw [if_pos rfl, if_pos rfl, if_pos rfl, if_pos rfl, if_pos (by omega)]
      simp only [Option.bind_some]
      rw [if_pos (by rw [partsTo_len]; simp only [List.length_cons, List.length_nil]; omega), Int.add_zero, Int.add_zero]
      rfl
theorem rShare (k : Nat) (much w all : Int) (hw : 0 ≤ w) (x : It) (pr : It → Int) (hx : pr x = w) : scrimref18_share.f (k + 1) much w all = some ((shr1 pr much all x).1, (shr1 pr much all x).2) := by
  unfold scrimref18_share.f shr1
  by_cases h : w = 0
  · rw [if_pos h, hx, if_neg (by omega)]
  · rw [if_neg h, hx, if_pos (by omega), rPart, mx_eq]
    rfl
theorem l3_ev {L : List S74} (hL : Ok74 L) (room : Int) (fs : List Bool) (ag : Bool) (G S v : Int) (less : Bool) (pr : It → Int) (much all : Int) (zs' : List Int) (r' : Bool) (res : Res) (hf : fs.length = L.length)
    (hcase : (less = false ∧ pr = prG ∧ 0 ≤ v ∧ much = v ∧ all = G) ∨ (less = true ∧ pr = prS ∧ v < 0 ∧ -1099511627776 ≤ v ∧ much = -v ∧ all = S))
    (H : Ev (fun k => scrimref18_Share.l4 k room L zs' fs (!r') ag 0) res) :
    ∀ d i zs r, i + d = L.length → zs.length = L.length → givN less pr much all (L.map it74) fs d i (zs, r) = (zs', r') → Ev (fun k => scrimref18_Share.l3 k room L zs fs (!r) ag G S v (i : Int)) res
  | 0, i, zs, r, h, hz, hg => by
    have e : i = L.length := by omega
    subst e
    rw [givN] at hg
    obtain ⟨rfl, rfl⟩ := Prod.mk.inj hg
    exact Ev.step (fun k => by rw [scrimref18_Share.l3, if_neg (Int.lt_irrefl _)]) H
  | d + 1, i, zs, r, h, hz, hg => by
    have hn := hL.n
    have hi : i < L.length := by omega
    have hg0 := hL.g i
    have hs0 := hL.s i
    rw [givN, giv, it74_get] at hg
    cases hb : fs.getD i false
    · rw [if_neg (by rw [hb]; decide)] at hg
      have ih := l3_ev hL room fs ag G S v less pr much all zs' r' res hf hcase H d (i + 1) _ _ (by omega) (by simp only [List.length_set]; exact hz) hg
      rcases hcase with ⟨rfl, rfl, hv, rfl, rfl⟩ | ⟨rfl, rfl, hv, hv2, rfl, rfl⟩
      · obtain ⟨K, hK⟩ := ih
        refine ⟨K + 2, fun k hk => ?_⟩
        obtain ⟨k, rfl⟩ : ∃ m, k = m + 1 + 1 := ⟨k - 2, by omega⟩
        have q := hK (k + 1) (by omega)
        dsimp only at q ⊢
        refine Eq.trans ?_ q
        rw [scrimref18_Share.l3, if_pos (by omega), if_pos (by omega), if_pos (by omega), rdOf_nat, hb, if_neg (by decide), if_pos hv, rShare k _ _ _ hg0.1 (it74 (rd_T74 L (i : Int))) prG rfl]
        simp only [Option.bind_some]
        rw [rAdd]
        simp only [Option.bind_some]
        rw [if_pos (by omega), w64s hi (by omega), Int.toNat_natCast, givV_addV, givB_addV]
        generalize (shr1 prG much all (it74 (rd_T74 L (i : Int)))).2 = b1
        have e0 : (it74 (rd_T74 L (i : Int))).1 = (rd_T74 L (i : Int)).f0 := rfl
        rw [e0]
        generalize addB (rd_T74 L (i : Int)).f0 (shr1 prG much all (it74 (rd_T74 L (i : Int)))).1 = b2
        cases r <;> cases b1 <;> cases b2 <;> simp
      · obtain ⟨K, hK⟩ := ih
        refine ⟨K + 2, fun k hk => ?_⟩
        obtain ⟨k, rfl⟩ : ∃ m, k = m + 1 + 1 := ⟨k - 2, by omega⟩
        have q := hK (k + 1) (by omega)
        dsimp only at q ⊢
        refine Eq.trans ?_ q
        rw [scrimref18_Share.l3, if_pos (by omega), if_pos (by omega), if_pos (by omega), rdOf_nat, hb, if_neg (by decide), if_neg (by omega), w64 (n := -v) (by omega) (by omega), rShare k _ _ _ hs0.1 (it74 (rd_T74 L (i : Int))) prS rfl]
        simp only [Option.bind_some]
        rw [rSub]
        simp only [Option.bind_some]
        rw [if_pos (by omega), w64s hi (by omega), Int.toNat_natCast, givV_subV, givB_subV]
        generalize (shr1 prS (-v) all (it74 (rd_T74 L (i : Int)))).2 = b1
        have e0 : (it74 (rd_T74 L (i : Int))).1 = (rd_T74 L (i : Int)).f0 := rfl
        rw [e0]
        generalize subB (rd_T74 L (i : Int)).f0 (shr1 prS (-v) all (it74 (rd_T74 L (i : Int)))).1 = b2
        cases r <;> cases b1 <;> cases b2 <;> simp
    · rw [if_pos hb] at hg
      have ih := l3_ev hL room fs ag G S v less pr much all zs' r' res hf hcase H d (i + 1) _ _ (by omega) hz hg
      refine Ev.step (fun k => ?_) ih
      rw [scrimref18_Share.l3, if_pos (by omega), if_pos (by omega), if_pos (by omega), rdOf_nat, hb, if_pos rfl, w64s hi (by omega)]
theorem l4_ev {L : List S74} (hn : L.length ≤ 100) (room : Int) (ex : Bool) (z' : List Int) (f' : List Bool) (ag' : Bool) (res : Res) (H : Ev (fun k => scrimref18_Share.l1 k room L z' f' ex ag') res) :
    ∀ d i z f ag, i + d = L.length → z.length = L.length → f.length = L.length → frzN d i (z, f, ag) = (z', f', ag') → Ev (fun k => scrimref18_Share.l4 k room L z f ex ag (i : Int)) res
  | 0, i, z, f, ag, h, hz, hf, hg => by
    have e : i = L.length := by omega
    subst e
    rw [frzN] at hg
    obtain ⟨e1, hg⟩ := Prod.mk.inj hg
    obtain ⟨e2, e3⟩ := Prod.mk.inj hg
    rw [e1, e2, e3]
    exact Ev.step (fun k => by rw [scrimref18_Share.l4, if_neg (Int.lt_irrefl _)]) H
  | d + 1, i, z, f, ag, h, hz, hf, hg => by
    have hi : i < L.length := by omega
    rw [frzN, frz] at hg
    dsimp only at hg
    cases hb : f.getD i false
    · by_cases hx : z.getD i 0 < 0
      · rw [if_pos ⟨hb, hx⟩] at hg
        have ih := l4_ev hn room ex z' f' ag' res H d (i + 1) _ _ _ (by omega) (by rw [List.length_set]; exact hz) (by rw [List.length_set]; exact hf) hg
        refine Ev.step (fun k => ?_) ih
        rw [scrimref18_Share.l4, if_pos (by omega), if_pos (by omega), if_pos (by omega), rdOf_nat, hb, if_neg (by decide), if_pos (by omega), rd_nat, if_pos hx, w64s hi (by omega), Int.toNat_natCast]
      · rw [if_neg (fun q => hx q.2)] at hg
        have ih := l4_ev hn room ex z' f' ag' res H d (i + 1) _ _ _ (by omega) hz hf hg
        refine Ev.step (fun k => ?_) ih
        rw [scrimref18_Share.l4, if_pos (by omega), if_pos (by omega), if_pos (by omega), rdOf_nat, hb, if_neg (by decide), if_pos (by omega), rd_nat, if_neg hx, w64s hi (by omega)]
    · rw [if_neg (fun q => by rw [hb] at q; exact absurd q.1 (by decide))] at hg
      have ih := l4_ev hn room ex z' f' ag' res H d (i + 1) _ _ _ (by omega) hz hf hg
      refine Ev.step (fun k => ?_) ih
      rw [scrimref18_Share.l4, if_pos (by omega), if_pos (by omega), if_pos (by omega), rdOf_nat, hb, if_pos rfl, w64s hi (by omega)]
/-- Nothing that isn't frozen is below 0: nothing is frozen. -/
theorem frzN_none : ∀ d i z f ag, (∀ j, f.getD j false = false → 0 ≤ z.getD j 0) → frzN d i (z, f, ag) = (z, f, ag)
  | 0, _, _, _, _, _ => rfl
  | d + 1, i, z, f, ag, h => by
    rw [frzN, frz, if_neg (fun q => by have h1 := h i q.1; have h2 : z.getD i 0 < 0 := q.2; omega)]
    exact frzN_none d (i + 1) z f ag h
theorem partV_nonneg {a n d : Int} (ha : 0 ≤ a) : 0 ≤ partV a n d := by
  unfold partV
  split
  · rename_i ho
    have h : 0 ≤ n ∧ n ≤ 1048576 ∧ 1 ≤ d ∧ d ≤ 1048576 := by simpa [partOk] using ho
    have hc : 0 ≤ clampV a := by unfold clampV; split <;> (try split) <;> omega
    have hp : 0 ≤ clampV a * n := Int.mul_nonneg hc h.1
    have hd : 0 ≤ (clampV a * n).tdiv d := by rw [Int.tdiv_eq_ediv_of_nonneg hp]; exact Int.ediv_nonneg hp (by omega)
    generalize (clampV a * n).tdiv d = q at hd ⊢
    unfold clampV
    split <;> (try split) <;> omega
  · omega
theorem addV_nonneg {a b : Int} (ha : 0 ≤ a) (hb : 0 ≤ b) : 0 ≤ addV a b := by
  unfold addV clampV
  (repeat' split) <;> omega
theorem givV_nonneg {much all : Int} {x : It} (hm : 0 ≤ much) (hx : 0 ≤ x.1) : 0 ≤ givV false prG much all x := by
  rw [givV_addV]
  refine addV_nonneg hx ?_
  unfold shr1
  split
  · exact partV_nonneg hm
  · exact Int.le_refl 0
/-- After a gift of what is left nothing that isn't frozen is below 0. -/
theorem givN_nonneg {much all : Int} {its : List It} {fs : List Bool} (hm : 0 ≤ much) (hx : ∀ i, 0 ≤ (its.getD i zIt).1) : ∀ d i zs r, (∀ j, j < i → fs.getD j false = false → 0 ≤ zs.getD j 0) → i + d = zs.length →
    ∀ j, j < i + d → fs.getD j false = false → 0 ≤ (givN false prG much all its fs d i (zs, r)).1.getD j 0
  | 0, i, zs, r, h, _ => fun j hj hf => h j (by omega) hf
  | d + 1, i, zs, r, h, hl => fun j hj hf => by
    rw [givN, giv]
    split
    · rename_i hb
      refine givN_nonneg hm hx d (i + 1) zs r (fun q hq hqf => ?_) (by omega) j (by omega) hf
      by_cases e : q = i
      · rw [e, hb] at hqf; cases hqf
      · exact h q (by omega) hqf
    · refine givN_nonneg hm hx d (i + 1) _ _ (fun q hq hqf => ?_) (by simp; omega) j (by omega) hf
      simp only [List.getD, List.getElem?_set]
      by_cases e : i = q
      · subst e
        rw [if_pos rfl, if_pos (by omega)]
        exact givV_nonneg hm (hx i)
      · rw [if_neg e]
        exact h q (by omega) hqf
theorem restV_bd (its : List It) (zs : List Int) (fs : List Bool) (room : Int) : -1099511627776 ≤ restV its zs fs room ∧ restV its zs fs room ≤ 1099511627776 := clampV_bd _
/-- The document's loop does what the program's does. -/
theorem l1_ev {L : List S74} (hL : Ok74 L) (room : Int) (res : Res) : ∀ g zs fs r, zs.length = L.length → fs.length = L.length → shareL (L.map it74) room g zs fs r = some res → Ev (fun k => scrimref18_Share.l1 k room L zs fs (!r) true) res
  | 0, zs, fs, r, hz, hf, h => by simp [shareL] at h
  | g + 1, zs, fs, r, hz, hf, h => by
    have hn := hL.n
    have hlen : (L.map it74).length = L.length := List.length_map ..
    obtain ⟨v1, v2⟩ := restV_bd (L.map it74) zs fs room
    refine Ev.step (f := fun k => scrimref18_Share.l2 k room L zs fs (!r) false ([] : List Int) 0 0 0) (fun k => by rw [scrimref18_Share.l1, if_pos rfl]) ?_
    refine l2_ev hL room zs fs (!r) false res hz hf ?_ L.length 0 (by omega)
    have er : (!r && restB (L.map it74) zs fs room) = !(r || !restB (L.map it74) zs fs room) := by cases r <;> cases restB (L.map it74) zs fs room <;> rfl
    rw [er]
    rw [shareL] at h
    by_cases h0 : 0 ≤ restV (L.map it74) zs fs room
    · rw [if_pos h0, hlen] at h
      obtain ⟨⟨zs1, r1⟩, hg⟩ : ∃ s, s = givN false prG (restV (L.map it74) zs fs room) (allTo prG (L.map it74) fs L.length) (L.map it74) fs L.length 0 (zs, r || !restB (L.map it74) zs fs room) := ⟨_, rfl⟩
      rw [← hg] at h
      injection h with h
      subst h
      have hl1 : zs1.length = L.length := by
        have q := congrArg (fun s : List Int × Bool => s.1.length) hg
        simp only [givN_len] at q
        exact q.trans hz
      have hnn : ∀ j, fs.getD j false = false → 0 ≤ zs1.getD j 0 := fun j hj => by
        by_cases hlt : j < L.length
        · have q := givN_nonneg (much := restV (L.map it74) zs fs room) (all := allTo prG (L.map it74) fs L.length) (its := L.map it74) (fs := fs) h0 (fun i => by rw [it74_get]; exact (hL.b i).1) L.length 0 zs (r || !restB (L.map it74) zs fs room) (fun j hj => by omega) (by omega) j (by omega) hj
          rw [← hg] at q
          exact q
        · simp only [List.getD, List.getElem?_eq_none (show zs1.length ≤ j by omega)]; exact Int.le_refl 0
      refine l3_ev hL room fs false _ _ _ false prG (restV (L.map it74) zs fs room) (allTo prG (L.map it74) fs L.length) zs1 r1 _ hf (Or.inl ⟨rfl, rfl, h0, rfl, rfl⟩) ?_ L.length 0 zs _ (by omega) hz hg.symm
      refine l4_ev hn room (!r1) zs1 fs false _ ?_ L.length 0 zs1 fs false (by omega) hl1 hf (frzN_none _ _ _ _ _ hnn)
      exact Ev.step (f := fun _ => some (zs1, !r1)) (fun k => by rw [scrimref18_Share.l1, if_neg (by decide)]) (Ev.now _)
    · rw [if_neg h0, hlen] at h
      dsimp only at h
      obtain ⟨⟨zs1, r1⟩, hg⟩ : ∃ s, s = givN true prS (-restV (L.map it74) zs fs room) (allTo prS (L.map it74) fs L.length) (L.map it74) fs L.length 0 (zs, r || !restB (L.map it74) zs fs room) := ⟨_, rfl⟩
      rw [← hg] at h
      have hl1 : zs1.length = L.length := by
        have q := congrArg (fun s : List Int × Bool => s.1.length) hg
        simp only [givN_len] at q
        exact q.trans hz
      dsimp only at h
      rw [hl1] at h
      obtain ⟨⟨zs2, fs2, b2⟩, hfz⟩ : ∃ s, s = frzN L.length 0 (zs1, fs, false) := ⟨_, rfl⟩
      rw [← hfz] at h
      have hfl := frzN_len L.length 0 (zs1, fs, false)
      rw [← hfz] at hfl
      dsimp only at h hfl
      refine l3_ev hL room fs false _ _ _ true prS (-restV (L.map it74) zs fs room) (allTo prS (L.map it74) fs L.length) zs1 r1 _ hf (Or.inr ⟨rfl, rfl, by omega, by omega, rfl, rfl⟩) ?_ L.length 0 zs _ (by omega) hz hg.symm
      refine l4_ev hn room (!r1) zs2 fs2 b2 _ ?_ L.length 0 zs1 fs false (by omega) hl1 hf hfz.symm
      cases b2
      · rw [if_neg (by decide)] at h
        injection h with h
        subst h
        exact Ev.step (f := fun _ => some (zs2, !r1)) (fun k => by rw [scrimref18_Share.l1, if_neg (by decide)]) (Ev.now _)
      · rw [if_pos rfl] at h
        exact l1_ev hL room res g zs2 fs2 r1 (hfl.1.trans hl1) (hfl.2.trans hf) h
/-! ### The program's Share always answers -/
def cf (f : List Bool) : Nat := f.count false
theorem frz_cf (i : Nat) (z : List Int) (f : List Bool) (ag : Bool) (hi : i < f.length) : cf (frz i (z, f, ag)).2.1 + (if (frz i (z, f, ag)).2.2 = true ∧ ag = false then 1 else 0) ≤ cf f := by
  unfold frz
  dsimp only
  by_cases h : f.getD i false = false ∧ z.getD i 0 < 0
  · rw [if_pos h]
    dsimp only
    have hb : f[i] = false := by have := h.1; simpa [List.getD, hi] using this
    unfold cf
    rw [List.count_set hi]
    have hc : 0 < f.count false := List.count_pos_iff.2 (hb ▸ List.getElem_mem hi)
    simp only [hb]
    cases ag <;> simp <;> omega
  · rw [if_neg h]
    dsimp only
    cases ag <;> simp
theorem frzN_cf : ∀ d i z f ag, i + d ≤ f.length → cf (frzN d i (z, f, ag)).2.1 + (if (frzN d i (z, f, ag)).2.2 = true ∧ ag = false then 1 else 0) ≤ cf f
  | 0, i, z, f, ag, h => by rw [frzN]; cases ag <;> simp
  | d + 1, i, z, f, ag, h => by
    rw [frzN]
    obtain ⟨⟨z1, f1, a1⟩, e⟩ : ∃ s, s = frz i (z, f, ag) := ⟨_, rfl⟩
    have h1 := frz_cf i z f ag (by omega)
    have hl := frz_len i (z, f, ag)
    rw [← e] at h1 hl ⊢
    dsimp only at h1 hl
    have h2 := frzN_cf d (i + 1) z1 f1 a1 (by omega)
    generalize frzN d (i + 1) (z1, f1, a1) = s2 at h2 ⊢
    obtain ⟨z2, f2, a2⟩ := s2
    dsimp only at h2 ⊢
    cases ag <;> cases a1 <;> cases a2 <;> simp at h1 h2 ⊢ <;> omega
theorem shareL_some (its : List It) (room : Int) : ∀ g zs fs r, zs.length = fs.length → cf fs < g → ∃ res, shareL its room g zs fs r = some res
  | 0, zs, fs, r, _, h => by omega
  | g + 1, zs, fs, r, hl, h => by
    rw [shareL]
    split
    · exact ⟨_, rfl⟩
    · dsimp only
      obtain ⟨⟨zs1, r1⟩, hg⟩ : ∃ s, s = givN true prS (-restV its zs fs room) (allTo prS its fs its.length) its fs its.length 0 (zs, r || !restB its zs fs room) := ⟨_, rfl⟩
      rw [← hg]
      have hl1 : zs1.length = fs.length := by
        have q := congrArg (fun s : List Int × Bool => s.1.length) hg
        simp only [givN_len] at q
        exact q.trans hl
      dsimp only
      rw [hl1]
      have h1 := frzN_cf fs.length 0 zs1 fs false (by omega)
      have h2 := frzN_len fs.length 0 (zs1, fs, false)
      generalize frzN fs.length 0 (zs1, fs, false) = s at h1 h2 ⊢
      obtain ⟨zs2, fs2, b2⟩ := s
      dsimp only at h1 h2 ⊢
      cases b2
      · rw [if_neg (by decide)]; exact ⟨_, rfl⟩
      · rw [if_pos rfl]
        simp at h1
        exact shareL_some its room g zs2 fs2 r1 (by omega) (by omega)
/-! ### The document's Share -/
def cv (x : S48) : S74 := ⟨x.f0, x.f1, x.f2, x.f3⟩
def cnt74 (x : S74) : S74 := ⟨szV x.f0, szV x.f1, wtV x.f2, wtV x.f3⟩
theorem szV_eq (n : Int) : mn (mx n 0) 1099511627776 = szV n := by unfold mn mx szV; (repeat' split) <;> omega
theorem wtV_eq (n : Int) : mn (mx n 0) 6400 = wtV n := by unfold mn mx wtV; (repeat' split) <;> omega
theorem szV_bd (n : Int) : 0 ≤ szV n ∧ szV n ≤ 1099511627776 := by unfold szV; (repeat' split) <;> omega
theorem wtV_bd (n : Int) : 0 ≤ wtV n ∧ wtV n ≤ 6400 := by unfold wtV; (repeat' split) <;> omega
theorem rCounted (a b c d : Int) : scrimref18_counted.f a b c d = some (szV a, szV b, wtV c, wtV d) := by
  unfold scrimref18_counted.f
  rw [szV_eq, szV_eq, wtV_eq, wtV_eq]
theorem getD_rd74 (l : List S74) (i : Nat) (h : i < l.length) : rd_T74 l (i : Int) = l[i] := by unfold rd_T74; rw [Int.toNat_natCast]; simp [List.getD, h]
theorem getD_rd48 (l : List S48) (i : Nat) (h : i < l.length) : rd_T48 l (i : Int) = l[i] := by unfold rd_T48; rw [Int.toNat_natCast]; simp [List.getD, h]
theorem own_ev (l : List S48) (hn : l.length ≤ 1000) : ∀ d i, i + d = l.length → Ev (fun k => scrimlaw18_own.l0 k ((l.take i).map cv) l (l.length : Int) (i : Int)) (l.map cv)
  | 0, i, h => by
    have e : i = l.length := by omega
    subst e
    rw [List.take_length]
    exact Ev.step (f := fun _ => some (l.map cv)) (fun k => by rw [scrimlaw18_own.l0, if_neg (Int.lt_irrefl _)]) (Ev.now _)
  | d + 1, i, h => by
    have hi : i < l.length := by omega
    have ih := own_ev l hn d (i + 1) (by omega)
    refine Ev.step (fun k => ?_) ih
    rw [scrimlaw18_own.l0, if_pos (by omega), if_pos (by omega), if_pos (by omega), if_pos (by rw [List.length_map, List.length_take]; omega), w64s hi (by omega), getD_rd48 l i hi, List.take_succ_eq_append_getElem hi, List.map_append]
    rfl
theorem own_f (l : List S48) (hn : l.length ≤ 1000) : Ev (fun k => scrimlaw18_own.f k l) (l.map cv) := own_ev l hn l.length 0 (by omega)
theorem share0_ev (l : List S74) (hn : l.length ≤ 100) (room : Int) (res : Res) (H : Ev (fun k => scrimref18_Share.l1 k room (l.map cnt74) (List.replicate l.length 0) (List.replicate l.length false) true true) res) :
    ∀ d i, i + d = l.length → Ev (fun k => scrimref18_Share.l0 k l room ((l.take i).map cnt74) (List.replicate i 0) (List.replicate i false) (i : Int)) res
  | 0, i, h => by
    have e : i = l.length := by omega
    subst e
    rw [List.take_length]
    exact Ev.step (fun k => by rw [scrimref18_Share.l0, if_neg (Int.lt_irrefl _)]) H
  | d + 1, i, h => by
    have hi : i < l.length := by omega
    have ih := share0_ev l hn room res H d (i + 1) (by omega)
    refine Ev.step (fun k => ?_) ih
    rw [scrimref18_Share.l0, if_pos (by omega), if_pos (by omega), rCounted]
    simp only [Option.bind_some]
    rw [if_pos (by rw [List.length_map, List.length_take]; omega), if_pos (by rw [List.length_replicate]; omega), if_pos (by rw [List.length_replicate]; omega), w64s hi (by omega), getD_rd74 l i hi, List.take_succ_eq_append_getElem hi, List.map_append, List.replicate_succ', List.replicate_succ']
    rfl
theorem ok74 (l : List S74) (hn : l.length ≤ 100) : Ok74 (l.map cnt74) := by
  have h : ∀ i : Nat, rd_T74 (l.map cnt74) (i : Int) = cnt74 (rd_T74 l (i : Int)) := fun i => by
    by_cases hi : i < l.length
    · rw [getD_rd74 _ i (by rw [List.length_map]; exact hi), getD_rd74 l i hi, List.getElem_map]
    · unfold rd_T74
      rw [Int.toNat_natCast]
      simp only [List.getD, List.getElem?_map, List.getElem?_eq_none (show l.length ≤ i by omega)]
      rfl
  refine ⟨by rw [List.length_map]; exact hn, fun i => ?_, fun i => ?_, fun i => ?_⟩
  · rw [h]; exact szV_bd _
  · rw [h]; exact wtV_bd _
  · rw [h]; exact wtV_bd _
theorem its_eq (l : List S48) : ((l.map cv).map cnt74).map it74 = (l.map flex_Share.it).map cntd := by
  simp only [List.map_map]
  rfl
/-- Both Shares: the same answer. -/
theorem share_both (l : List S48) (room : Int) (hn : l.length ≤ 120) : ∃ res : Res, Ev (fun k => flex_Share.f k l room) res ∧ Ev (fun k => scrimref18_Share.f k (l.map cv) room) res := by
  by_cases h : l.length ≤ 100
  · obtain ⟨res, hr⟩ := shareL_some ((l.map flex_Share.it).map cntd) room (l.length + 1) (List.replicate l.length 0) (List.replicate l.length false) false (by simp) (by unfold cf; rw [List.count_replicate_self]; omega)
    refine ⟨res, Ev.of (fun k => flex_Share.mono l room k) (k := l.length + 1) ?_, ?_⟩
    · unfold flex_Share.f
      rw [if_pos h, List.length_map]
      exact hr
    · have e : (l.map cv).length = l.length := List.length_map ..
      unfold scrimref18_Share.f
      refine Ev.congr (fun k => by rw [if_neg (by rw [e]; omega)]) ?_
      refine share0_ev (l.map cv) (by rw [e]; exact h) room res ?_ l.length 0 (by rw [e]; omega)
      have q := l1_ev (ok74 (l.map cv) (by rw [e]; exact h)) room res (l.length + 1) (List.replicate (l.map cv).length 0) (List.replicate (l.map cv).length false) false (by simp) (by simp) (by rw [its_eq, e]; exact hr)
      exact q
  · refine ⟨([], false), Ev.congr (f := fun _ => some ([], false)) (fun k => ?_) (Ev.now _), Ev.congr (f := fun _ => some ([], false)) (fun k => ?_) (Ev.now _)⟩
    · unfold flex_Share.f; rw [if_neg h]
    · unfold scrimref18_Share.f; rw [if_pos (by rw [List.length_map]; omega)]
theorem rjl_ev (l : List Int) (hn : l.length ≤ 1000) (how over : Int) (ex : Bool) (o0 : 0 ≤ over) (o1 : over ≤ 1099511627776) : ∀ d i, i + d = l.length → Ev (fun k => scrimref18_Justify.l0 k l how over (jEx l (at0V how over) (gapV how over l.length) ex (i - 1)) (l.length : Int) (jOut l (at0V how over) (gapV how over l.length) i) (i : Int)) (jV l (at0V how over) (gapV how over l.length) ex)
  | 0, i, h => by
    have e : i = l.length := by omega
    subst e
    exact Ev.step (f := fun _ => some (jV l (at0V how over) (gapV how over l.length) ex)) (fun k => by rw [scrimref18_Justify.l0, if_neg (Int.lt_irrefl _)]; rfl) (Ev.now _)
  | d + 1, i, h => by
    have ih := rjl_ev l hn how over ex o0 o1 d (i + 1) (by omega)
    have hi : i < l.length := by omega
    have hlen : (jOut l (at0V how over) (gapV how over l.length) i).length < 17592186044416 := by rw [jOut_len]; omega
    refine Ev.step (fun k => ?_) ih
    rw [scrimref18_Justify.l0, if_pos (by omega)]
    cases i with
    | zero =>
      rw [if_neg (by omega), w64s hi (by omega), jOut_succ]
      unfold at0V jAt
      by_cases h1 : how = 1
      · rw [if_pos h1, if_pos (by unfold at0V at hlen; exact hlen), if_pos h1, Int.tdiv_eq_ediv_of_nonneg o0, w64 (by omega) (by omega)]
      · rw [if_neg h1, if_neg h1]
        by_cases h2 : how = 2
        · rw [if_pos h2, if_pos (by unfold at0V at hlen; exact hlen), if_pos h2]
        · rw [if_neg h2, if_pos (by unfold at0V at hlen; exact hlen), if_neg h2]
    | succ j =>
      have e1 : wrap64 (((j + 1 : Nat) : Int) - 1) = (j : Int) := by rw [w64 (by omega) (by omega)]; omega
      rw [if_pos (by omega), e1, if_pos (by omega), if_pos (by rw [jOut_len]; omega), if_pos (by omega), rAdd, rd_nat, rd_nat, jOut_get _ _ _ _ _ (by omega), w64s hi (by omega)]
      simp only [Option.bind_some]
      rw [jOut_succ _ _ _ (j + 1)]
      have eA : jAt l (at0V how over) (gapV how over l.length) (j + 1) = addV (addV (jAt l (at0V how over) (gapV how over l.length) j) (l.getD j 0)) (gapV how over l.length) := rfl
      have eE : jEx l (at0V how over) (gapV how over l.length) ex (j + 1 + 1 - 1) = (jEx l (at0V how over) (gapV how over l.length) ex j && addB (jAt l (at0V how over) (gapV how over l.length) j) (l.getD j 0) && addB (addV (jAt l (at0V how over) (gapV how over l.length) j) (l.getD j 0)) (gapV how over l.length)) := rfl
      rw [eE, eA, show j + 1 - 1 = j by omega]
      have GG : (how = 3 ∧ gapV how over l.length = over / ((l.length : Int) - 1)) ∨ (how ≠ 3 ∧ gapV how over l.length = 0) := by
        unfold gapV
        by_cases h3 : how = 3
        · rw [if_pos h3, if_pos (by omega)]; exact Or.inl ⟨h3, rfl⟩
        · rw [if_neg h3]; exact Or.inr ⟨h3, rfl⟩
      generalize at0V how over = a0 at *
      rcases GG with ⟨h3, eg⟩ | ⟨h3, eg⟩
      · have q0 : 0 ≤ over / ((l.length : Int) - 1) := Int.ediv_nonneg o0 (by omega)
        have q1 : over / ((l.length : Int) - 1) ≤ over := Int.ediv_le_self _ o0
        rw [if_pos h3, w64 (n := (l.length : Int) - 1) (by omega) (by omega), if_neg (by omega), Int.tdiv_eq_ediv_of_nonneg o0, w64 (n := over / ((l.length : Int) - 1)) (by omega) (by omega), rAdd, ← eg]
        simp only [Option.bind_some]
        generalize addB (jAt l a0 (gapV how over l.length) j) (l.getD j 0) = b1
        generalize addB (addV (jAt l a0 (gapV how over l.length) j) (l.getD j 0)) (gapV how over l.length) = b2
        cases jEx l a0 (gapV how over l.length) ex j <;> cases b1 <;> cases b2 <;> simp [hlen]
      · generalize gapV how over l.length = gp at *
        subst eg
        rw [if_neg h3, rAdd]
        simp only [Option.bind_some]
        generalize addB (jAt l a0 0 j) (l.getD j 0) = b1
        generalize addB (addV (jAt l a0 0 j) (l.getD j 0)) 0 = b2
        cases jEx l a0 0 ex j <;> cases b1 <;> cases b2 <;> simp [hlen]
theorem rjust_ev (l : List Int) (hn : l.length ≤ 1000) (room how : Int) : Ev (fun k => scrimref18_Justify.f k l room how) (justV l room how) := by
  obtain ⟨o0, o1⟩ := overV_bd l room
  unfold scrimref18_Justify.f
  refine Ev.bind (rSum l (by omega)) ?_
  refine Ev.congr (f := fun k => scrimref18_Justify.j0 k l how (overV l room) (sumB l && subB room (sumV l))) (fun k => ?_) ?_
  · rw [rSub]
    simp only [Option.bind_some]
    rw [mx_eq]
    have e : max (subV room (sumV l)) 0 = overV l room := rfl
    rw [e]
    cases sumB l <;> simp
  · exact Ev.step (fun k => by rw [scrimref18_Justify.j0]; rfl) (rjl_ev l hn how (overV l room) (sumB l && subB room (sumV l)) o0 o1 l.length 0 (by omega))
/-! ### The document's Order -/
structure OrdAt (l : List Int) (i : Nat) (out : List Int) : Prop where
  perm : out.Perm (places i)
  sorted : out.Pairwise (R (keyAt l))
theorem OrdAt.len {l : List Int} {i : Nat} {out : List Int} (h : OrdAt l i out) : out.length = i := by rw [h.perm.length_eq, places_length]
theorem OrdAt.mem {l : List Int} {i : Nat} {out : List Int} (h : OrdAt l i out) {x : Int} (hx : x ∈ out) : 0 ≤ x ∧ x < (i : Int) := mem_places.1 (h.perm.mem_iff.1 hx)
theorem places_snoc (k : Nat) : places (k + 1) = places k ++ [(k : Int)] := by simp [places, List.range_succ]
theorem OrdAt.put {l : List Int} {i at_ : Nat} {out : List Int} (h : OrdAt l i out) (ha : at_ ≤ out.length) (hi : ∀ j, at_ ≤ j → j < out.length → keyAt l (i : Int) < keyAt l (out.getD j 0)) (lo : at_ = 0 ∨ ¬ keyAt l (i : Int) < keyAt l (out.getD (at_ - 1) 0)) :
    OrdAt l (i + 1) (out.take at_ ++ ((i : Int) :: out.drop at_)) := by
  constructor
  · rw [places_snoc]
    refine List.Perm.trans List.perm_middle ?_
    rw [List.take_append_drop]
    exact (List.Perm.cons _ h.perm).trans (List.perm_append_singleton _ _).symm
  · have hs := h.sorted
    have hp := List.pairwise_iff_getElem.1 hs
    refine List.pairwise_append.2 ⟨hs.sublist (List.take_sublist _ _), List.pairwise_cons.2 ⟨fun y hy => ?_, hs.sublist (List.drop_sublist _ _)⟩, fun x hx y hy => ?_⟩
    · obtain ⟨j, hj, rfl⟩ := List.mem_iff_getElem.1 hy
      rw [List.length_drop] at hj
      have q := hi (at_ + j) (by omega) (by omega)
      rw [List.getElem_drop]
      refine R.of_key ?_
      simpa [List.getD, show at_ + j < out.length by omega] using q
    · have first : R (keyAt l) x (i : Int) := by
        obtain ⟨j, hj, rfl⟩ := List.mem_iff_getElem.1 hx
        rw [List.length_take] at hj
        rw [List.getElem_take]
        have hm := h.mem (List.getElem_mem (show j < out.length by omega))
        rcases lo with lo | lo
        · omega
        · have hk : keyAt l (out[at_ - 1]'(by omega)) ≤ keyAt l (i : Int) := by
            have q := lo
            simp only [List.getD, List.getElem?_eq_getElem (show at_ - 1 < out.length by omega), Option.getD_some] at q
            omega
          have hle : keyAt l (out[j]'(by omega)) ≤ keyAt l (out[at_ - 1]'(by omega)) := by
            by_cases e : j = at_ - 1
            · subst e; exact Int.le_refl _
            · have q := hp j (at_ - 1) (by omega) (by omega) (by omega)
              unfold R at q
              omega
          unfold R
          omega
      rcases List.mem_cons.1 hy with rfl | hy
      · exact first
      · obtain ⟨j, hj, rfl⟩ := List.mem_iff_getElem.1 hx
        obtain ⟨j2, hj2, rfl⟩ := List.mem_iff_getElem.1 hy
        rw [List.length_take] at hj
        rw [List.length_drop] at hj2
        rw [List.getElem_take, List.getElem_drop]
        exact hp j (at_ + j2) (by omega) (by omega) (by omega)
theorem ord1_ev {l : List Int} (hn : l.length ≤ 1000) {i : Nat} {out : List Int} (ho : OrdAt l i out) (hi : i < l.length) (res : List Int)
    (H : ∀ a, OrdAt l (i + 1) (out.take a ++ ((i : Int) :: out.drop a)) → Ev (fun k => scrimref18_Order.l0 k l (out.take a ++ ((i : Int) :: out.drop a)) ((i + 1 : Nat) : Int)) res) :
    ∀ a, a ≤ out.length → (∀ j, a ≤ j → j < out.length → keyAt l (i : Int) < keyAt l (out.getD j 0)) → Ev (fun k => scrimref18_Order.l1 k l out (i : Int) (a : Int)) res := by
  have hlen := ho.len
  have fin : ∀ a, a ≤ out.length → (∀ j, a ≤ j → j < out.length → keyAt l (i : Int) < keyAt l (out.getD j 0)) → (a = 0 ∨ ¬ keyAt l (i : Int) < keyAt l (out.getD (a - 1) 0)) →
      Ev (fun k => (some (([(i : Int)] : List Int) : List Int)).bind fun y332 => (if 0 ≤ (a : Int) then (if (a : Int) ≤ (out.length : Int) then ((some (out.drop ((a : Int)).toNat : List Int)).bind fun y335 => (if y332.length + y335.length < 17592186044416 then ((some (y332 ++ y335 : List Int)).bind fun y339 => ((some (([] : List Int) : List Int)).bind fun y342 => ((some (out.take ((a : Int)).toNat : List Int)).bind fun y345 => (if y342.length + y345.length < 17592186044416 then ((some (y342 ++ y345 : List Int)).bind fun y349 => (if y349.length + y339.length < 17592186044416 then (scrimref18_Order.l0 k l (y349 ++ y339) (wrap64 ((i : Int) + 1))) else (none))) else (none))))) else (none))) else (none)) else (none))) res := by
    intro a ha h1 h2
    refine Ev.congr (fun k => ?_) (H a (ho.put ha h1 h2))
    simp only [Option.bind_some]
    rw [if_pos (by omega), if_pos (by omega), Int.toNat_natCast, if_pos (by simp only [List.length_cons, List.length_nil, List.length_drop]; omega), if_pos (by simp only [List.length_nil, List.length_take]; omega), List.nil_append, if_pos (by simp only [List.length_append, List.length_cons, List.length_nil, List.length_take, List.length_drop]; omega), w64s hi (by omega)]
    rfl
  intro a
  induction a with
  | zero =>
    intro ha h1
    refine Ev.step (fun k => ?_) (fin 0 (by omega) h1 (Or.inl rfl))
    rw [scrimref18_Order.l1, if_neg (by omega)]
  | succ a ih =>
    intro ha h1
    have hm := ho.mem (List.getElem_mem (show a < out.length by omega))
    have eg : out.getD a 0 = out[a]'(by omega) := by simp [List.getD, show a < out.length by omega]
    have e1 : wrap64 (((a + 1 : Nat) : Int) - 1) = (a : Int) := by rw [w64 (by omega) (by omega)]; omega
    by_cases hk : keyAt l (i : Int) < keyAt l (out.getD a 0)
    · refine Ev.step (fun k => ?_) (ih (by omega) (fun j hj hj2 => by
        by_cases e : j = a
        · rw [e]; exact hk
        · exact h1 j (by omega) hj2))
      rw [scrimref18_Order.l1, if_pos (by omega), e1, if_pos (by omega), if_pos (by omega), rd_nat, if_pos (by rw [eg]; omega), if_pos (by rw [eg]; omega), if_pos (by omega), if_pos (by omega), if_pos (by unfold rd; exact hk)]
    · refine Ev.step (fun k => ?_) (fin (a + 1) (by omega) h1 (Or.inr (by rw [show a + 1 - 1 = a by omega]; exact hk)))
      rw [scrimref18_Order.l1, if_pos (by omega), e1, if_pos (by omega), if_pos (by omega), rd_nat, if_pos (by rw [eg]; omega), if_pos (by rw [eg]; omega), if_pos (by omega), if_pos (by omega), if_neg (by unfold rd; exact hk)]
theorem order_ev (l : List Int) (hn : l.length ≤ 1000) : Ev (fun k => scrimref18_Order.f k l) (orderV l) := by
  have L : ∀ d i out, i + d = l.length → OrdAt l i out → Ev (fun k => scrimref18_Order.l0 k l out (i : Int)) (orderV l) := by
    intro d
    induction d with
    | zero =>
      intro i out h ho
      have e : i = l.length := by omega
      subst e
      have e2 := orderV_of l out ho.perm ho.sorted
      refine Ev.step (f := fun _ => some out) (fun k => by rw [scrimref18_Order.l0, if_neg (by omega)]) ?_
      rw [e2]; exact Ev.now _
    | succ d ih =>
      intro i out h ho
      refine Ev.step (f := fun k => scrimref18_Order.l1 k l out (i : Int) (out.length : Int)) (fun k => by rw [scrimref18_Order.l0, if_pos (by omega)]) ?_
      exact ord1_ev hn ho (by omega) _ (fun a ha => ih (i + 1) _ (by omega) ha) out.length (by omega) (fun j h1 h2 => by omega)
  exact L l.length 0 [] (by omega) ⟨List.Perm.refl _, List.Pairwise.nil⟩
theorem shareL_len (its : List It) (room : Int) : ∀ g zs fs r res, shareL its room g zs fs r = some res → res.1.length = zs.length
  | 0, _, _, _, _, h => by simp [shareL] at h
  | g + 1, zs, fs, r, res, h => by
    rw [shareL] at h
    split at h
    · injection h with h
      rw [← h, givN_len]
    · dsimp only at h
      split at h
      · rw [shareL_len its room g _ _ _ res h, (frzN_len _ _ _).1, givN_len]
      · injection h with h
        rw [← h]
        dsimp only
        rw [(frzN_len _ _ _).1, givN_len]
/-- FlexTells. -/
theorem FlexTells (l : List S48) (room : Int) (long : List Int) (how : Int) : ∃ k, scrimlaw18_FlexTells.f k l room long how = some true := by
  refine Ev.rounds ?_
  unfold scrimlaw18_FlexTells.f
  refine Ev.bind awake_ev ?_
  refine Ev.congr (fun k => if_pos rfl) ?_
  have T : ∀ b : Bool, b = true → Ev (fun k => scrimlaw18_FlexTells.j0 k l room long how b) true := fun b hb => by
    subst hb
    exact Ev.step (f := fun _ => some true) (fun k => by rw [scrimlaw18_FlexTells.j0, if_pos rfl]) (Ev.now _)
  by_cases h1 : (l.length : Int) > 120
  · exact Ev.congr (fun k => if_pos h1) (T true rfl)
  · refine Ev.congr (fun k => if_neg h1) ?_
    by_cases h2 : (long.length : Int) > 120
    · exact T _ (decide_eq_true h2)
    · rw [decide_eq_false h2]
      obtain ⟨⟨sz, ex⟩, s1, s2⟩ := share_both l room (by omega)
      have hsz : sz.length ≤ 1000 := by
        obtain ⟨k, hk⟩ := Ev.rounds s1
        unfold flex_Share.f at hk
        split at hk
        · have q := shareL_len _ _ _ _ _ _ _ hk
          rw [List.length_replicate, List.length_map] at q
          dsimp only at q
          omega
        · injection hk with hk
          injection hk with hk _
          rw [← hk]; simp
      refine Ev.step (f := fun k => (flex_Share.f k l room).bind fun bt356 => ((scrimlaw18_own.f k l).bind fun t360 => ((scrimref18_Share.f k t360 room).bind fun bt363 => ((flex_Justify.f k long room how).bind fun bt367 => ((scrimref18_Justify.f k long room how).bind fun bt371 => ((scrimlaw18_same.f k bt356.1 bt363.1).bind fun t375 => (if t375 = true then (if (bt356.2 == bt363.2) = true then ((scrimlaw18_same.f k bt367.1 bt371.1).bind fun t376 => (if t376 = true then (if (bt367.2 == bt371.2) = true then ((flex_Order.f long).bind fun t377 => ((scrimref18_Order.f k long).bind fun t380 => ((scrimref11_Same.f k t377 t380).bind fun t383 => (some t383)))) else (some false)) else (some false))) else (some false)) else (some false))))))) ) (fun k => by rw [scrimlaw18_FlexTells.j0, if_neg (by decide)]) ?_
      refine Ev.bind s1 ?_
      refine Ev.bind (own_f l (by omega)) ?_
      refine Ev.bind s2 ?_
      refine Ev.bind (just_ev long (by omega) room how) ?_
      refine Ev.bind (rjust_ev long (by omega) room how) ?_
      refine Ev.bind (same_ev sz hsz) ?_
      refine Ev.congr (fun k => if_pos rfl) ?_
      refine Ev.congr (fun k => if_pos (beq_self_eq_true _)) ?_
      refine Ev.bind (same_ev (justV long room how).1 (by unfold justV jV; rw [jOut_len]; omega)) ?_
      refine Ev.congr (fun k => if_pos rfl) ?_
      refine Ev.congr (fun k => if_pos (beq_self_eq_true _)) ?_
      refine Ev.bind (g := fun _ => flex_Order.f long) (a := orderV long) (Ev.congr (f := fun _ => some (orderV long)) (fun k => order_f long (by omega)) (Ev.now _)) ?_
      refine Ev.bind (order_ev long (by omega)) ?_
      exact Ev.bind (Same_ev (orderV long) (by rw [orderV_length]; omega)) (Ev.now _)
end Go.Proofs.FlexP
