/- FlexTells (scrimlaw18): for every list of items, every room, every list of lengths and every word the law returns true, and both lists read afterwards as they read before; no condition. -/
import Derived.Test.YtdifaomkaekglaaRows
import Derived.Test.YtdifaomkaekglaaHF5
import Derived.Test.YtdifaomkaekglaaPT
import Derived.Test.YtdifaomkaekglaaFOpn
import Derived.WalkKit
import Derived.ProofKit
import Derived.OpenShut
import Derived.ShutString
import Derived.ChangeOld
import Derived.Below
import Derived.SizedLaws
import Derived.Deep.Strs
import Derived.Test.YtdifaomkaekglaaWSized
namespace Go.Proofs.Ytdifaomkaekglaa.flexTells
open Go.ChangeShapes Go.WideShapes Go.ChangeAt Go.RowKit
open Go.Proofs.YtdifaomkaekglaaW.PrintWords Go.Proofs.Ytdifaomkaekglaa.FOpn
set_option linter.unusedVariables false
theorem own : ownKnob Try.prog.godebug = none := by kernel_rfl
theorem laidOut : laidOutB Try.prog = true := by kernel_rfl
theorem opens48 {H : Type} {enc : TypeId × Value → H} {w : World} {base : Nat} {spare : Nat → Bool} {held : Bool} (n : Nat) (cs : List Value) (x : DataW H × List MemPlace) (h : DataW.trod enc Try.prog w base spare held n 48 cs = some x) :
    ∃ y : HF.S48, HF.k48.K w y cs ∧ True := by
  obtain ⟨y0, y1, y2, y3, m, _, hl, h0, h1, h2, h3⟩ := trod_struct4 Try.underlying48 h
  have e : Try.prog.cellsOf 48 = 4 := by kernel_rfl
  have e2 : Try.prog.cellsOf 2 = 1 := by kernel_rfl
  rw [e] at hl
  match cs, hl with
  | [c0, c1, c2, c3], _ =>
    simp only [e2, List.drop_zero, List.drop_succ_cons, List.take_succ_cons, List.take_zero] at h0 h1 h2 h3
    obtain ⟨n0, g0, _, _⟩ := DataW.trod_int Try.underlying2 h0
    obtain ⟨n1, g1, _, _⟩ := DataW.trod_int Try.underlying2 h1
    obtain ⟨n2, g2, _, _⟩ := DataW.trod_int Try.underlying2 h2
    obtain ⟨n3, g3, _, _⟩ := DataW.trod_int Try.underlying2 h3
    injection g0 with g0
    injection g1 with g1
    injection g2 with g2
    injection g3 with g3
    subst g0 g1 g2 g3
    exact ⟨⟨n0, n1, n2, n3⟩, HF.k48_mk w _, trivial⟩
instance : Inhabited HF.S48 := ⟨HF.z48⟩
set_option maxRecDepth 100000 in
theorem lifted (os : Os) (started : os.Started) (H : Type) (enc : TypeId × Value → H) :
    ReturnsInHanded {} Try.checked os 5 .any (Rows.flexTellsSpec.pre6 enc Try.prog Try.f5 Rows.flexTellsRow.domain false) (Rows.flexTellsSpec.post enc Try.prog Try.f5 false true false false) := by
  refine returnsInHanded_of_change_sized (C := Try.checked) own started (by kernel_rfl) Try.func5
    (ChangeSpec.witness6 (enc := enc) (C := Try.checked) false ⟨#[], #[.slice none 0 0, .int .i64 0, .slice none 0 0, .int .i64 0], []⟩ 8 (by kernel_rfl) (by kernel_rfl) (by kernel_rfl) (by kernel_rfl)) ?_
  intro W base args ds gs before hval0 hW hcnd hsz0 _
  have hsz : (DataW.weightsEach Try.prog (Try.f5.params.toList ++ Rows.flexTellsSpec.plain.varTypes Try.prog) (ds ++ gs)).all (· ≤ reachBytes) = true := hsz0
  have hval : ∀ (j : Nat) t v, Try.f5.params[j]? = some t → args[j]? = some v → Value.okWide Try.prog W .any base t v := hval0
  have hW' := hW
  obtain ⟨p, q, hA0, hV, rfl, hfz, hnd⟩ := hW
  have hA : DataW.TrodAll enc Try.prog W 0 (fun _ => true) true Try.f5.params.toList args.toList ds p := hA0
  rw [Try.params5] at hA hval hsz
  obtain ⟨v0, vs0, d0, ds0, p0, q0, hargs, rfl, rfl, h0, r0⟩ := trodAll_cons hA
  obtain ⟨v1, vs1, d1, ds1, p1, q1, rfl, rfl, rfl, h1, r1⟩ := trodAll_cons r0
  obtain ⟨v2, vs2, d2, ds2, p2, q2, rfl, rfl, rfl, h2, r2⟩ := trodAll_cons r1
  obtain ⟨v3, vs3, d3, ds3, p3, q3, rfl, rfl, rfl, h3, r3⟩ := trodAll_cons r2
  obtain ⟨rfl, rfl, rfl⟩ := trodAll_nil r3
  obtain rfl : args = #[v0, v1, v2, v3] := by cases args; simp_all
  obtain ⟨rfl, rfl⟩ := trodVars_none hV
  obtain ⟨a0, len0, cap0, rfl⟩ := okWide_slice Try.underlying34 (hval 0 34 v0 rfl rfl)
  have k0 := h0
  have lt0 : ∀ x ∈ p0, x.block < W.heap.size := by obtain ⟨m, hm⟩ := k0; exact DataW.trod_lt m _ _ _ hm
  obtain ⟨l0, rfl, c0, hr0, _⟩ := opens_slice (d := HF.k48) (Wf := fun _ => True) Try.underlying34 (by kernel_rfl) opens48 h0
  obtain ⟨a1, rfl, rfl, rfl, w1⟩ := open_int Try.underlying2 (hval 1 2 v1 rfl rfl) h1
  obtain ⟨a2, len2, cap2, rfl⟩ := okWide_slice Try.underlying28 (hval 2 28 v2 rfl rfl)
  have k2 := h2
  have lt2 : ∀ x ∈ p2, x.block < W.heap.size := by obtain ⟨m, hm⟩ := k2; exact DataW.trod_lt m _ _ _ hm
  obtain ⟨l2, rfl, c2, hr2, _⟩ := opens_slice (d := Kd.int .i64) (Wf := fun _ => True) Try.underlying28 (by kernel_rfl) (fun n cs x h => by obtain ⟨y, g, _, _⟩ := DataW.trod_int Try.underlying2 h; exact ⟨y, g, trivial⟩) h2
  obtain ⟨a3, rfl, rfl, rfl, w3⟩ := open_int Try.underlying2 (hval 3 2 v3 rfl rfl) h3
  clear hA0 hval0 hsz0 hsz
  obtain ⟨k, hk⟩ := FlexP.FlexTells l0 a1 l2 a3
  refine (HF.scrimlaw18_FlexTells.calls k _ _ l0 a1 _ _ l2 a3 true rfl W hr0 c0 hr2 c2 hk).mono fun e W' ⟨he, bel⟩ => ?_
  subst he
  exact ⟨_, rfl, _, _, _, [], _, [], hW', trodAll_mk1 (shut_bool Try.underlying4 _), (trodAll_cons_mk (Below.trod laidOut (by kernel_rfl) (of_decide_eq_true (by kernel_rfl)) k0 bel lt0) (trodAll_cons_mk (shut_int Try.underlying2 w1) (trodAll_cons_mk (Below.trod laidOut (by kernel_rfl) (of_decide_eq_true (by kernel_rfl)) k2 bel lt2) (trodAll_cons_mk (shut_int Try.underlying2 w3) trodAll_mk0)))), rfl, bel.frame _, fun h => by cases h⟩
theorem over : Rows.flexTellsRow.holds Try.pinned (OpenSpec.ofChange Rows.flexTellsSpec) :=
  OpenClaim.holds_of_wide 5 Try.f5 rfl rfl rfl rfl rfl rfl rfl ⟨rfl, rfl, rfl, rfl, rfl⟩ rfl rfl rfl rfl rfl (by kernel_rfl) Try.func5 (by kernel_rfl)
    (of_decide_eq_true (by kernel_rfl)) (by unfold Func.isWrapper; first | (rw [if_pos (by decide +kernel)]; kernel_rfl) | (rw [if_neg (by decide +kernel)]; exact ⟨rfl, rfl⟩))
    (fun os started H enc _ => lifted os started H enc)
theorem proved : Rows.FlexTellsSaid := over
end Go.Proofs.Ytdifaomkaekglaa.flexTells
namespace Go.Proofs.Ytdifaomkaekglaa
/-- The row, under a short name, for the claim. -/
theorem flexTells_holds : Rows.FlexTellsSaid := flexTells.proved
#print axioms flexTells_holds
end Go.Proofs.Ytdifaomkaekglaa
