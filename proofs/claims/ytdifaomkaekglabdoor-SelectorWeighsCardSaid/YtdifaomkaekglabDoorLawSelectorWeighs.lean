/- The row of 'SelectorWeighs' and its tied card. -/
import Derived.Test.YtdifaomkaekglabDoorRows
import Derived.Test.YtdifaomkaekglabDoorCards
import Derived.Test.YtdifaomkaekglabDoorTie
import Derived.Test.YtdifaomkaekglabDoorHW
import Derived.Test.YtdifaomkaekglabDoorPSeW
import Derived.Test.YtdifaomkaekglabDoorScR
import Derived.Test.YtdifaomkaekglabDoorSeO
import Derived.WalkKit
import Derived.ProofKit
import Derived.OpenShut
import Derived.ShutString
import Derived.ChangeOld
import Derived.Below
import Derived.SizedLaws
import Derived.LaidMore
import Derived.Lay
import Derived.SevenTiedAt
import Derived.Stop.Joined
namespace Go.Proofs.YtdifaomkaekglabDoor.selectorWeighs
open Go.ChangeShapes Go.WideShapes Go.ChangeAt Go.RowKit Go.Proofs.YtdifaomkaekglabDoorW.PrintWords
open Go.ChangeMaps (open_string shut_string)
set_option linter.unusedVariables false
theorem own : ownKnob Tryd.prog.godebug = none := by kernel_rfl
theorem laidOut : laidOutB Tryd.prog = true := by kernel_rfl
theorem light_of {H : Type} {P : Program} {ts : List TypeId} {ds : List (DataW H)} {j : Nat} {t : TypeId} {d : DataW H} (hsz : (DataW.weightsEach P ts ds).all (· ≤ reachBytes) = true) (htj : ts[j]? = some t) (hd : ds[j]? = some d) : Pure.light P t d := by
  intro n hn
  have := List.all_eq_true.1 hsz n (DataW.weights_mem_each htj hd n hn)
  simpa using this
set_option maxRecDepth 100000 in
theorem lifted (os : Os) (started : os.Started) (H : Type) (enc : TypeId × Value → H) :
    ReturnsInHanded {} Tryd.checked os 5 .any (fun w args => (Rows.selectorWeighsSpec.pre enc Tryd.prog Tryd.f5 Rows.selectorWeighsRow.domain false w args ∧ laidMetH Tryd.prog Rows.selectorWeighsRow.laid w) ∧ sizedMet enc Tryd.prog Tryd.f5 (OpenSpec.ofChange Rows.selectorWeighsSpec) false w args)
      (Rows.selectorWeighsSpec.post enc Tryd.prog Tryd.f5 false true false false) := by
  refine Scn.handed_laid_shaped (C := Tryd.checked) (X := fun w _ => laidMetH Tryd.prog Rows.selectorWeighsRow.laid w) own started (by kernel_rfl) Tryd.func5
    (ChangeSpec.witness_shaped (enc := enc) (C := Tryd.checked) (os := os) (X := fun w _ => laidMetH Tryd.prog Rows.selectorWeighsRow.laid w) false (World.laidAll Tryd.prog os Rows.selectorWeighsRow.laid) #[.agg #[.slice none 0 0, .slice none 0 0], .int .i64 0] 8 (World.laidAll_os _ _ _)
      (World.shaped_of_ZipB (by kernel_rfl) (by kernel_rfl)) (by kernel_rfl) (by kernel_rfl) (by kernel_rfl)
      (by rw [MakeChecks.laidMetH_plain _ _ _ (by kernel_rfl)]; exact laidMet_laidAll _ (by kernel_rfl) (by kernel_rfl))) ?_
  intro W base args ds gs before hval0 hW hsz0 hsh
  have hmx : Scn.Mx W := Tryd.laysM138.s1_3 W hsh
  have hsz : (DataW.weightsEach Tryd.prog (Tryd.f5.params.toList ++ Rows.selectorWeighsSpec.plain.varTypes Tryd.prog) (ds ++ gs)).all (· ≤ reachBytes) = true := hsz0
  have hval : ∀ (j : Nat) t v, Tryd.f5.params[j]? = some t → args[j]? = some v → Value.okWide Tryd.prog W .any base t v := hval0
  have hW' := hW
  obtain ⟨p, q, hA0, hV, rfl, hfz, hnd⟩ := hW
  have hA : DataW.TrodAll enc Tryd.prog W 0 (fun _ => true) true Tryd.f5.params.toList args.toList ds p := hA0
  rw [Tryd.params5] at hA hval hsz
  obtain ⟨v0, vs0, d0, ds0, p0, q0, hargs, rfl, rfl, h0, r0⟩ := trodAll_cons hA
  obtain ⟨v1, vs1, d1, ds1, p1, q1, rfl, rfl, rfl, h1, r1⟩ := trodAll_cons r0
  obtain ⟨rfl, rfl, rfl⟩ := trodAll_nil r1
  obtain rfl : args = #[v0, v1] := by cases args; simp_all
  obtain ⟨rfl, rfl⟩ := trodVars_none hV
  have k0 := h0
  have lt0 : ∀ x ∈ p0, x.block < W.heap.size := by obtain ⟨m, hm⟩ := k0; exact DataW.trod_lt m _ _ _ hm
  obtain ⟨cs0, hcs0, _⟩ := okWide_struct Tryd.underlying25 (hval 0 25 v0 rfl rfl)
  obtain ⟨A00, c00, l00, A01, c01, l01, rfl, C00, e00, C01, e01, z0⟩ := Pure.arg25 ⟨cs0, hcs0⟩ h0
  have sm0 := z0 (light_of hsz (j := 0) (t := 25) rfl rfl)
  obtain ⟨a1, rfl, rfl, rfl, y1⟩ := open_int Tryd.underlying3 (hval 1 3 v1 rfl rfl) h1
  clear hA0 hval0 hsz0 hsz
  obtain ⟨k, hk⟩ := Pure.SelectorWeighs l00 l01 a1 sm0.1 sm0.2 trivial
  refine (HS.scrimlaw09_SelectorWeighs.calls k (fun k_ => k_ < W.heap.size) A00 c00 l00 (fun k_ => k_ < W.heap.size) A01 c01 l01 a1 true rfl W (Kd.V_mk e00 (Kd.C_F HS.k44_heap C00)) (Kd.V_mk e01 (Kd.C_F Kd.heap_bool C01))  hk hmx).mono fun e W' ⟨he, bel⟩ => ?_
  subst he
  exact ⟨_, rfl, _, _, _, [], _, [], hW', trodAll_mk1 (shut_bool Tryd.underlying4 _), (trodAll_cons_mk (Below.trod laidOut (by kernel_rfl) (of_decide_eq_true (by kernel_rfl)) k0 bel lt0) (trodAll_cons_mk (shut_int Tryd.underlying3 y1) trodAll_mk0)), rfl, bel.frame _, fun h => by cases h⟩
theorem holds : Rows.SelectorWeighsSaid :=
  OpenClaim.holds_of_wide 5 Tryd.f5 rfl rfl rfl rfl rfl rfl rfl ⟨rfl, rfl, rfl, rfl, rfl⟩ rfl rfl rfl rfl rfl (by kernel_rfl) Tryd.func5 (by kernel_rfl)
    (of_decide_eq_true (by kernel_rfl)) (by unfold Func.isWrapper; first | (rw [if_pos (by decide +kernel)]; kernel_rfl) | (rw [if_neg (by decide +kernel)]; exact ⟨rfl, rfl⟩))
    (fun os started H enc _ => lifted os started H enc)
theorem card_holds : Rows.SelectorWeighsCardSaid :=
  Claim7.holds_tied_plain_at .later [] [.data, .pinned] true (true, "a3694a5b0d9b1082d9192b5554e6036c2f81159d5e34a466aec563a43d7b1c01") false holds (fun _ h => by cases h) (by kernel_rfl) (fun _ h => by cases h) selectorWeighs_row_tie rfl ⟨rfl, rfl⟩ (by kernel_rfl) rfl
    (fun f fn hf hfn => by
      obtain rfl : f = 5 := Option.some.inj ((show Tryd.prog.funcNamed "scrim/scrimlaw09.SelectorWeighs" = some 5 by kernel_rfl).symm.trans hf) |>.symm
      obtain rfl : fn = Tryd.f5 := (Option.some.inj (Tryd.func5.symm.trans hfn)).symm
      exact ⟨by kernel_rfl, fun j t ht => by
        rw [Tryd.params5] at ht
        have hm : t ∈ [25, 3] := by simpa using Array.mem_of_getElem? ht
        have hall : ([25, 3].all fun u => !Tryd.prog.wantsStandIn u) = true := by kernel_rfl
        exact (show Tryd.prog.wantsStandIn t = false by simpa using List.all_eq_true.1 hall t hm)⟩)
    (by kernel_rfl)
#print axioms card_holds
end Go.Proofs.YtdifaomkaekglabDoor.selectorWeighs
namespace Go.Proofs.YtdifaomkaekglabDoor
/-- The card, under a short name, for the claim. -/
theorem selectorWeighsCard_holds : Rows.SelectorWeighsCardSaid := selectorWeighs.card_holds
end Go.Proofs.YtdifaomkaekglabDoor
