/- The row of 'ScanBlocks' and its tied card. -/
import Derived.Test.YtdifaomkaekglaaDoorRows
import Derived.Test.YtdifaomkaekglaaDoorCards
import Derived.Test.YtdifaomkaekglaaDoorTie
import Derived.Test.YtdifaomkaekglaaDoorHS7
import Derived.Test.YtdifaomkaekglaaDoorPSb
import Derived.Test.YtdifaomkaekglaaDoorScR
import Derived.Test.YtdifaomkaekglaaDoorScO
import Derived.WalkKit
import Derived.ProofKit
import Derived.OpenShut
import Derived.ShutString
import Derived.ChangeOld
import Derived.Below
import Derived.SizedLaws
import Derived.LaidMore
import Derived.Lay
import Derived.SevenTiedAt
import Derived.Stop.Joined
namespace Go.Proofs.YtdifaomkaekglaaDoor.scanBlocks
open Go.ChangeShapes Go.WideShapes Go.ChangeAt Go.RowKit
open Go.ChangeMaps (open_string shut_string)
set_option linter.unusedVariables false
theorem own : ownKnob Tryd.prog.godebug = none := by kernel_rfl
open Go.Proofs.YtdifaomkaekglaaDoorW.PrintWords
instance : Inhabited HS.S29 := ⟨HS.z29⟩
theorem laidOut : laidOutB Tryd.prog = true := by kernel_rfl
theorem opens29 {H : Type} {enc : TypeId × Value → H} {w : World} {base : Nat} {spare : Nat → Bool} {held : Bool} (n : Nat) (cs : List Value) (x : DataW H × List MemPlace) (h : DataW.trod enc Tryd.prog w base spare held n 29 cs = some x) :
    ∃ y : HS.S29, HS.k29.K w y cs ∧ x.1 = .agg [.lit (.string y.f0.data.toList), .lit (.string y.f1.data.toList)] := by
  obtain ⟨y0, y1, m, rfl, hl, h0, h1⟩ := trod_struct2 Tryd.underlying29 h
  have hl2 : cs.length = 2 := hl.trans (by kernel_rfl)
  obtain ⟨s0, g0, rfl, _⟩ := DataW.trod_string Tryd.underlying9 h0
  obtain ⟨s1, g1, rfl, _⟩ := DataW.trod_string Tryd.underlying9 h1
  have c9 : Tryd.prog.cellsOf 9 = 1 := by kernel_rfl
  match cs, hl2 with
  | [a, b], _ =>
    simp [c9] at g0 g1
    subst g0; subst g1
    exact ⟨⟨s0, s1⟩, HS.k29_mk w ⟨s0, s1⟩, rfl⟩
set_option maxRecDepth 100000 in
theorem lifted (os : Os) (started : os.Started) (H : Type) (enc : TypeId × Value → H) :
    ReturnsInHanded {} Tryd.checked os 6 .any (fun w args => (Rows.scanBlocksSpec.pre enc Tryd.prog Tryd.f6 Rows.scanBlocksRow.domain false w args ∧ laidMetH Tryd.prog Rows.scanBlocksRow.laid w) ∧ sizedMet enc Tryd.prog Tryd.f6 (OpenSpec.ofChange Rows.scanBlocksSpec) false w args)
      (Rows.scanBlocksSpec.post enc Tryd.prog Tryd.f6 false true false false) := by
  refine Scn.handed_laid_shaped (C := Tryd.checked) (X := fun w _ => laidMetH Tryd.prog Rows.scanBlocksRow.laid w) own started (by kernel_rfl) Tryd.func6
    (ChangeSpec.witness_shaped (enc := enc) (C := Tryd.checked) (os := os) (X := fun w _ => laidMetH Tryd.prog Rows.scanBlocksRow.laid w) false (World.laidAll Tryd.prog os Rows.scanBlocksRow.laid) #[.slice none 0 0] 8 (World.laidAll_os _ _ _)
      (World.shaped_of_ZipB (by kernel_rfl) (by kernel_rfl)) (by kernel_rfl) (by kernel_rfl) (by kernel_rfl)
      (by rw [MakeChecks.laidMetH_plain _ _ _ (by kernel_rfl)]; exact laidMet_laidAll _ (by kernel_rfl) (by kernel_rfl))) ?_
  intro W base args ds gs before hval0 hW hsz0 hsh
  have hmx : Scn.Mx W := Tryd.laysM145.s1_3 W hsh
  have hsz : (DataW.weightsEach Tryd.prog (Tryd.f6.params.toList ++ Rows.scanBlocksSpec.plain.varTypes Tryd.prog) (ds ++ gs)).all (· ≤ reachBytes) = true := hsz0
  have hval : ∀ (j : Nat) t v, Tryd.f6.params[j]? = some t → args[j]? = some v → Value.okWide Tryd.prog W .any base t v := hval0
  have hW' := hW
  obtain ⟨p, q, hA0, hV, rfl, hfz, hnd⟩ := hW
  have hA : DataW.TrodAll enc Tryd.prog W 0 (fun _ => true) true Tryd.f6.params.toList args.toList ds p := hA0
  rw [Tryd.params6] at hA hval hsz
  obtain ⟨v0, vs0, d0, ds0, p0, q0, hargs, rfl, rfl, h0, r0⟩ := trodAll_cons hA
  obtain ⟨rfl, rfl, rfl⟩ := trodAll_nil r0
  obtain rfl : args = #[v0] := by cases args; simp_all
  obtain ⟨rfl, rfl⟩ := trodVars_none hV
  obtain ⟨A0, len0, cap0, rfl⟩ := okWide_slice Tryd.underlying23 (hval 0 23 v0 rfl rfl)
  have k0 := h0
  have lt0 : ∀ x ∈ p0, x.block < W.heap.size := by obtain ⟨m, hm⟩ := k0; exact DataW.trod_lt m _ _ _ hm
  obtain ⟨l0, rfl, c0, hr0, hwf⟩ := Scn.opens_slice_in (d := HS.k29) (Wf := fun y D => D = .agg [.lit (.string y.f0.data.toList), .lit (.string y.f1.data.toList)]) Tryd.underlying23 (by kernel_rfl) opens29 h0
  have hz : ∀ y ∈ l0, y.f0.size ≤ 140737488351232 ∧ y.f1.size ≤ 140737488351232 := by
    intro y hy
    obtain ⟨D, es, sp, hd, hD, rfl⟩ := hwf y hy
    subst hd
    have e0 := Scn.weight_in (n := y.f0.data.toList.length) hsz (j := 0) (t := 23) rfl rfl Tryd.underlying23 hD (by simp [DataW.weights, DataW.weightsEach, Tryd.underlying29])
    have e1 := Scn.weight_in (n := y.f1.data.toList.length) hsz (j := 0) (t := 23) rfl rfl Tryd.underlying23 hD (by simp [DataW.weights, DataW.weightsEach, Tryd.underlying29])
    rw [Array.length_toList] at e0 e1
    exact ⟨e0, e1⟩
  clear hA0 hval0 hsz0 hsz
  obtain ⟨k, hk⟩ := Pure.ScanBlocks l0 hz
  refine (HS.scrimlaw07_ScanBlocks.calls k A0 cap0 l0 true rfl W hr0 c0 hk hmx).mono fun e W' ⟨he, bel⟩ => ?_
  subst he
  exact ⟨_, rfl, _, _, _, [], _, [], hW', trodAll_mk1 (shut_bool Tryd.underlying4 _), (trodAll_cons_mk (Below.trod laidOut (by kernel_rfl) (of_decide_eq_true (by kernel_rfl)) k0 bel lt0) trodAll_mk0), rfl, bel.frame _, fun h => by cases h⟩
theorem holds : Rows.ScanBlocksSaid :=
  OpenClaim.holds_of_wide 6 Tryd.f6 rfl rfl rfl rfl rfl rfl rfl ⟨rfl, rfl, rfl, rfl, rfl⟩ rfl rfl rfl rfl rfl (by kernel_rfl) Tryd.func6 (by kernel_rfl)
    (of_decide_eq_true (by kernel_rfl)) (by unfold Func.isWrapper; first | (rw [if_pos (by decide +kernel)]; kernel_rfl) | (rw [if_neg (by decide +kernel)]; exact ⟨rfl, rfl⟩))
    (fun os started H enc _ => lifted os started H enc)
theorem card_holds : Rows.ScanBlocksCardSaid :=
  Claim7.holds_tied_plain_at .later [] [.data, .pinned] true (true, "b2700bdadca7e466fd4104c373aa153ed13038e61b4c93d0a4513e3fd5ff73d4") false holds (fun _ h => by cases h) (by kernel_rfl) (fun _ h => by cases h) scanBlocks_row_tie rfl ⟨rfl, rfl⟩ (by kernel_rfl) rfl
    (fun f fn hf hfn => by
      obtain rfl : f = 6 := Option.some.inj ((show Tryd.prog.funcNamed "scrim/scrimlaw07.ScanBlocks" = some 6 by kernel_rfl).symm.trans hf) |>.symm
      obtain rfl : fn = Tryd.f6 := (Option.some.inj (Tryd.func6.symm.trans hfn)).symm
      exact ⟨by kernel_rfl, fun j t ht => by
        rw [Tryd.params6] at ht
        have hm : t ∈ [23] := by simpa using Array.mem_of_getElem? ht
        have hall : ([23].all fun u => !Tryd.prog.wantsStandIn u) = true := by kernel_rfl
        exact (show Tryd.prog.wantsStandIn t = false by simpa using List.all_eq_true.1 hall t hm)⟩)
    (by kernel_rfl)
#print axioms card_holds
end Go.Proofs.YtdifaomkaekglaaDoor.scanBlocks
namespace Go.Proofs.YtdifaomkaekglaaDoor
/-- The card, under a short name, for the claim. -/
theorem scanBlocksCard_holds : Rows.ScanBlocksCardSaid := scanBlocks.card_holds
end Go.Proofs.YtdifaomkaekglaaDoor
