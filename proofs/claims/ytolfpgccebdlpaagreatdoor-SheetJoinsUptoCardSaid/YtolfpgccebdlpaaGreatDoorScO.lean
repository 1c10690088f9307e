/- How a slice that came in is read, each element with the data that the row knows of it; how much its elements may weigh; no condition beside those that each theorem states. -/
import Derived.Test.YtolfpgccebdlpaaGreatDoorWWords
import Derived.ProofKit
import Derived.SizedLaws
import Derived.Deep.Slices
import Derived.Deep.Strs
import Derived.Lib.SmallJoins
namespace Go.Proofs.Scn
open Go.RowKit Go.Proofs.YtolfpgccebdlpaaGreatDoorW.PrintWords Go.ChangeShapes Go.WideShapes Go.Deep
variable {H : Type} {enc : TypeId × Value → H} {P : Program} {w : World} {base : Nat} {spare : Nat → Bool} {held : Bool}
theorem opens_slice_in {α : Type} [Inhabited α] {d : Kd α} {Wf : α → DataW H → Prop} {t e : TypeId} (ht : P.underlying t = some (.slice e)) (hce : P.cellsOf e = d.sz)
    (hop : ∀ n cs x, DataW.trod enc P w base spare held n e cs = some x → ∃ y, d.K w y cs ∧ Wf y x.1)
    {a : Option Addr} {len cap : Nat} {dd : DataW H} {ps : List MemPlace} (h : DataW.Trod enc P w base spare held t (.slice a len cap) dd ps) :
    ∃ xs : List α, xs.length = len ∧ len ≤ cap ∧ d.C w a xs.length xs ∧ ∀ y ∈ xs, ∃ D es sp, dd = .slice es sp ∧ D ∈ es ∧ Wf y D := by
  obtain ⟨fuel, hf⟩ := h
  rcases open_slice ht hf with ⟨hcs, _⟩ | ⟨ad, len', cap', m, n, D, Pl, hcs, _, hl, hm, hmm, hxx, hx⟩
  · simp [Value.cells] at hcs
    obtain ⟨rfl, rfl, rfl⟩ := hcs
    exact ⟨[], rfl, Nat.le_refl _, ⟨rfl, by simp, fun h => absurd h (by simp)⟩, fun y hy => by simp at hy⟩
  · simp [Value.cells] at hcs
    obtain ⟨rfl, rfl, rfl⟩ := hcs
    have hlm : len ≤ m := by rw [hmm]; split <;> omega
    have each : ∀ i, i < len → ∃ y : α, ∃ cs, w.cells? base (ad.add (i * P.cellsOf e)) (P.cellsOf e) = some cs ∧ d.K w y cs ∧ Wf y (D i) := by
      intro i hi
      obtain ⟨cs, h1, h2⟩ := hx i (by omega)
      obtain ⟨y, hK, hW⟩ := hop _ _ _ h2
      exact ⟨y, cs, h1, hK, hW⟩
    obtain ⟨f, hfy⟩ := choose_lt each
    have hlen : ((List.range len).map f).length = len := by simp
    refine ⟨(List.range len).map f, hlen, hl, ⟨rfl, ?_, fun _ => ⟨ad, rfl, fun j p hj => ?_⟩⟩, fun y hy => ?_⟩
    · rw [hlen]; simp only [maxLen] at hm; omega
    · have hj' : j < len := by
        have := (List.getElem?_eq_some_iff.1 hj).1
        rwa [hlen] at this
      have hp : f j = p := by
        rw [List.getElem?_map, List.getElem?_range hj'] at hj
        simpa using hj
      obtain ⟨cs, h1, hK, _⟩ := hfy j hj'
      obtain ⟨_, hcl, hcell⟩ := World.cells?_some h1
      subst hp
      refine ⟨cs, by rw [hcl, hce], hK, fun i u hu => ?_⟩
      have hi : i < P.cellsOf e := by
        have := (List.getElem?_eq_some_iff.1 hu).1
        omega
      have h3 := hcell i hi
      rw [Deep.add_add, hu, hce] at h3
      exact h3
    · obtain ⟨i, hi, rfl⟩ := List.mem_map.1 hy
      obtain ⟨cs, _, _, hW⟩ := hfy i (List.mem_range.1 hi)
      exact ⟨D i, _, _, (Prod.mk.inj hxx).1, List.mem_map_of_mem hi, hW⟩
theorem weightsAll_mem {e : TypeId} {D : DataW H} {n : Nat} : ∀ {es : List (DataW H)}, D ∈ es → n ∈ D.weights P e → n ∈ DataW.weightsAll P e es
  | x :: es, h, hn => by
    rw [DataW.weightsAll, List.mem_append]
    rcases List.mem_cons.1 h with rfl | h
    · exact Or.inl hn
    · exact Or.inr (weightsAll_mem h hn)
end Go.Proofs.Scn
