/- BlockStacks (scrimlaw17): for every list of items the law returns true, and the list reads afterwards as it read before; no condition. -/
import Derived.Test.YtdifaomkaekglaaRows
import Derived.Test.YtdifaomkaekglaaHB3
import Derived.Test.YtdifaomkaekglaaPureBlockStacks
import Derived.Test.YtdifaomkaekglaaOpn
import Derived.WalkKit
import Derived.ProofKit
import Derived.OpenShut
import Derived.ShutString
import Derived.ChangeOld
import Derived.Below
import Derived.SizedLaws
namespace Go.Proofs.Ytdifaomkaekglaa.blockStacks
open Go.ChangeShapes Go.WideShapes Go.ChangeAt Go.RowKit
open Go.Proofs.YtdifaomkaekglaaW.PrintWords
theorem own : ownKnob Try.prog.godebug = none := by kernel_rfl
theorem laidOut : laidOutB Try.prog = true := by kernel_rfl
theorem opens32 {H : Type} {enc : TypeId × Value → H} {w : World} {base : Nat} {spare : Nat → Bool} {held : Bool} (n : Nat) (cs : List Value) (x : DataW H × List MemPlace) (h : DataW.trod enc Try.prog w base spare held n 32 cs = some x) :
    ∃ y : HB.S32, HB.k32.K w y cs ∧ True := by
  obtain ⟨y0, y1, y2, m, _, hl, h0, h1, h2⟩ := Go.Deep.trod_struct3 Try.underlying32 h
  have e : Try.prog.cellsOf 32 = 3 := by kernel_rfl
  have e2 : Try.prog.cellsOf 2 = 1 := by kernel_rfl
  rw [e] at hl
  match cs, hl with
  | [c0, c1, c2], _ =>
    simp only [e2, List.drop_zero, List.drop_succ_cons, List.take_succ_cons, List.take_zero] at h0 h1 h2
    obtain ⟨n0, g0, _, _⟩ := DataW.trod_int Try.underlying2 h0
    obtain ⟨n1, g1, _, _⟩ := DataW.trod_int Try.underlying2 h1
    obtain ⟨n2, g2, _, _⟩ := DataW.trod_int Try.underlying2 h2
    injection g0 with g0
    injection g1 with g1
    injection g2 with g2
    subst g0 g1 g2
    exact ⟨⟨n0, n1, n2⟩, HB.k32_mk w _, trivial⟩
instance : Inhabited HB.S32 := ⟨HB.z32⟩
set_option maxRecDepth 100000 in
theorem lifted (os : Os) (started : os.Started) (H : Type) (enc : TypeId × Value → H) :
    ReturnsInHanded {} Try.checked os 4 .any (Rows.blockStacksSpec.pre6 enc Try.prog Try.f4 Rows.blockStacksRow.domain false) (Rows.blockStacksSpec.post enc Try.prog Try.f4 false true false false) := by
  refine returnsInHanded_of_change_sized (C := Try.checked) own started (by kernel_rfl) Try.func4
    (ChangeSpec.witness6 (enc := enc) (C := Try.checked) false ⟨#[], #[.slice none 0 0], []⟩ 8 (by kernel_rfl) (by kernel_rfl) (by kernel_rfl) (by kernel_rfl)) ?_
  intro W base args ds gs before hval0 hW hcnd hsz0 _
  have hval : ∀ (j : Nat) t v, Try.f4.params[j]? = some t → args[j]? = some v → Value.okWide Try.prog W .any base t v := hval0
  have hW' := hW
  obtain ⟨p, q, hA0, hV, rfl, hfz, hnd⟩ := hW
  have hA : DataW.TrodAll enc Try.prog W 0 (fun _ => true) true Try.f4.params.toList args.toList ds p := hA0
  rw [Try.params4] at hA hval
  obtain ⟨v0, vs0, d0, ds0, p0, q0, hargs, rfl, rfl, h0, r0⟩ := trodAll_cons hA
  obtain ⟨rfl, rfl, rfl⟩ := trodAll_nil r0
  obtain rfl : args = #[v0] := by cases args; simp_all
  obtain ⟨rfl, rfl⟩ := trodVars_none hV
  obtain ⟨a0, len0, cap0, rfl⟩ := okWide_slice Try.underlying27 (hval 0 27 v0 rfl rfl)
  have lt0 : ∀ x ∈ p0, x.block < W.heap.size := by obtain ⟨m, hm⟩ := h0; exact DataW.trod_lt m _ _ _ hm
  obtain ⟨l0, rfl, c0, hr0, _⟩ := opens_slice (d := HB.k32) (Wf := fun _ => True) Try.underlying27 (by kernel_rfl) opens32 h0
  clear hA0 hval0 hsz0
  obtain ⟨k, hk⟩ := PureStacks.BlockStacks l0
  refine (HB.scrimlaw17_BlockStacks.calls k _ _ l0 true W hr0 c0 hk).mono fun e W' ⟨he, bel⟩ => ?_
  subst he
  exact ⟨_, rfl, _, _, _, [], _, [], hW', trodAll_mk1 (shut_bool Try.underlying4 _), (trodAll_cons_mk (Below.trod laidOut (by kernel_rfl) (of_decide_eq_true (by kernel_rfl)) h0 bel lt0) trodAll_mk0), rfl, bel.frame _, fun h => by cases h⟩
theorem over : Rows.blockStacksRow.holds Try.pinned (OpenSpec.ofChange Rows.blockStacksSpec) :=
  OpenClaim.holds_of_wide 4 Try.f4 rfl rfl rfl rfl rfl rfl rfl ⟨rfl, rfl, rfl, rfl, rfl⟩ rfl rfl rfl rfl rfl (by kernel_rfl) Try.func4 (by kernel_rfl)
    (of_decide_eq_true (by kernel_rfl)) (by unfold Func.isWrapper; first | (rw [if_pos (by decide +kernel)]; kernel_rfl) | (rw [if_neg (by decide +kernel)]; exact ⟨rfl, rfl⟩))
    (fun os started H enc _ => lifted os started H enc)
theorem proved : Rows.BlockStacksSaid := over
end Go.Proofs.Ytdifaomkaekglaa.blockStacks
namespace Go.Proofs.Ytdifaomkaekglaa
/-- The row, under a short name, for the claim. -/
theorem blockStacks_holds : Rows.BlockStacksSaid := blockStacks.proved
#print axioms blockStacks_holds
end Go.Proofs.Ytdifaomkaekglaa
