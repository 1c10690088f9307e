/- What the hand-written contracts of the print's form lean on (Selector): no condition beside those that each theorem states. -/
import Derived.Test.YtdifaomkaekglabDoorPrn
set_option linter.unusedVariables false
set_option linter.unusedSimpArgs false
namespace Go.Proofs.Scn
open Go.RowKit Go.Lib
/-- the package variable that strings.Index reads holds a number -/
def Mx (w : World) : Prop := ∃ m, w.cell? ⟨0, 0, none⟩ = some (.int .i64 m)
theorem Mx.below {w w' : World} (h : Mx w) (hb : Below w.heap.size w w') : Mx w' := by
  obtain ⟨m, hm⟩ := h
  exact ⟨m, (hb.cell (p := ⟨0, 0, none⟩) (World.block_lt_of_cell? _ _ hm)).trans hm⟩
theorem Mx.draws {w : World} (h : Mx w) (n : Nat) : Mx (w.drewN n) := h
end Go.Proofs.Scn
namespace Go.Proofs.Tok
open Go.RowKit Go.Lib Go.Proofs.YtdifaomkaekglabDoorW.PrintWords Go.Proofs.YtdifaomkaekglabDoorW.PrintLast Go.Proofs.YtdifaomkaekglabDoorW.PrintMore
theorem C_iso {α β : Type} {d : Kd α} {f : β → α} {w : World} {A : Option Addr} {n : Nat} {xs : List β} (h : Kd.C (Kd.iso d f) w A n xs) : Kd.C d w A n (xs.map f) := by
  obtain ⟨h1, h2, h3⟩ := h
  refine ⟨by rw [List.length_map]; exact h1, h2, fun hn => ?_⟩
  obtain ⟨ad, e, hc⟩ := h3 hn
  refine ⟨ad, e, fun j p hj => ?_⟩
  rw [List.getElem?_map] at hj
  obtain ⟨x, hx, rfl⟩ := Option.map_eq_some_iff.1 hj
  exact hc j x hx
instance (x : Smp) : Decidable (fitX x) := by unfold fitX; infer_instance
instance (x : Smp) : Decidable (txtX x) := by unfold txtX; infer_instance
instance (x : Smp) : Decidable (lenX x) := by unfold lenX; infer_instance
theorem repl_any (s old new : ByteArray) (w : World) (hm : Go.Proofs.Scn.Mx w) (hs : s.size < 4294967281) (h1 : 1 ≤ old.size) (hlen : s.size + Lib.countB s old * new.size ≤ 140737488355328) :
    Calls Tryd.prog 18 #[.string s, .string old, .string new] w fun e w' => e = .returned (.string ⟨(Lib.replaceAll s.data.toList old.data.toList new.data.toList).toArray⟩) ∧ Below w.heap.size w w' := by
  obtain ⟨m, hm⟩ := hm
  exact Tryd.strings_ReplaceAll s old new m w hs hm h1 hlen
end Go.Proofs.Tok
