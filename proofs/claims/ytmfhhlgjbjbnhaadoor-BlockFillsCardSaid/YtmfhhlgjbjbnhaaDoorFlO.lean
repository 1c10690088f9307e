/- A style that comes in: an array of 27 pairs of numbers; no condition. -/
import Derived.Test.YtmfhhlgjbjbnhaaDoorSty
import Derived.Test.YtmfhhlgjbjbnhaaDoorRows
import Derived.WideShapes
set_option linter.unusedVariables false
set_option linter.unusedSimpArgs false
namespace Go.Proofs
open Go.RowKit
set_option maxRecDepth 100000 in
theorem cell_i64 {W : World} {r : Reach} {base : Nat} {u : TypeId} {v : Value} (hu : Tryd.prog.underlying u = some (.int .i64)) (h : Cell.okWide Tryd.prog W r base u v) : ∃ n, v = .int .i64 n := by
  simp only [Cell.okWide, hu] at h
  cases v <;> simp_all [Cell.ok]
def styTs : List TypeId := (List.replicate 27 [3, 2]).flatten
theorem styTs_mem {u : TypeId} (h : u ∈ styTs) : u = 3 ∨ u = 2 := by
  unfold styTs at h
  simp only [List.mem_flatten, List.mem_replicate] at h
  obtain ⟨l, ⟨-, rfl⟩, hl⟩ := h
  simpa using hl
set_option maxRecDepth 100000 in
theorem style_types : Tryd.prog.cellTypes Tryd.prog.depth 25 = some styTs := by kernel_rfl
set_option maxRecDepth 100000 in
theorem style_of {W : World} {r : Reach} {base : Nat} {v : Value} (h : Value.okWide Tryd.prog W r base 25 v) : ∃ f, v = .agg (styA f) := by
  simp only [Value.okWide, Tryd.underlying25] at h
  obtain ⟨cs, rfl, hsz, ts, hts, -, hc⟩ := h
  rw [style_types] at hts
  obtain rfl := Option.some.inj hts
  have hsz : cs.size = 54 := hsz.trans (by kernel_rfl)
  have hall : ∀ i, i < 54 → ∃ n, cs[i]? = some (.int .i64 n) := fun i hi => by
    have e : cs[i]? = some cs[i] := Array.getElem?_eq_getElem (by omega)
    obtain ⟨u, hu, ho⟩ := hc i _ e
    have hu := styTs_mem (List.mem_of_getElem? hu)
    obtain ⟨n, hn⟩ := cell_i64 (by rcases hu with rfl | rfl <;> first | exact Tryd.underlying3 | exact Tryd.underlying2) ho
    exact ⟨n, by rw [e, hn]⟩
  have hch : ∃ g : Nat → Int, ∀ i, i < 54 → cs[i]? = some (.int .i64 (g i)) :=
    ⟨fun i => if h : i < 54 then (hall i h).choose else 0, fun i hi => by simp only [dif_pos hi]; exact (hall i hi).choose_spec⟩
  obtain ⟨g, hg⟩ := hch
  refine ⟨fun p => (g (p * 2), g (p * 2 + 1)), congrArg Value.agg (Array.ext_getElem? fun i => ?_)⟩
  by_cases hi : i < 54
  · rw [hg i hi]
    by_cases he : i % 2 = 0
    · obtain ⟨q, rfl⟩ : ∃ q, i = q * 2 := ⟨i / 2, by omega⟩
      exact (at_styA (fun p => (g (p * 2), g (p * 2 + 1))) q (by omega)).symm
    · obtain ⟨q, rfl⟩ : ∃ q, i = q * 2 + 1 := ⟨i / 2, by omega⟩
      exact (at_styA1 (fun p => (g (p * 2), g (p * 2 + 1))) q (by omega)).symm
  · rw [Array.getElem?_eq_none (by omega), Array.getElem?_eq_none (by rw [size_styA]; omega)]
end Go.Proofs
