/- How a selector, and a list of selectors, that came in is read, and how much its parts may weigh; no condition beside those that each theorem states. -/
import Derived.Test.YtdifaomkaekglabDoorScO
import Derived.Test.YtdifaomkaekglabDoorPSeD
import Derived.WideShapes
namespace Go.Proofs.YtdifaomkaekglabDoor.Pure
open Go.RowKit Go.ChangeShapes Go.WideShapes Go.Deep Go.Proofs.YtdifaomkaekglabDoor.HS Go.Proofs.YtdifaomkaekglabDoorW.PrintWords
set_option linter.unusedVariables false
variable {H : Type} {enc : TypeId × Value → H} {w : World} {base : Nat} {spare : Nat → Bool} {held : Bool}
theorem trod_struct5 {P : Program} {t : TypeId} {f0 f1 f2 f3 f4 : Field} {fuel : Nat} {cs : List Value} {x : DataW H × List MemPlace} (ht : P.underlying t = some (.struct #[f0, f1, f2, f3, f4])) (h : DataW.trod enc P w base spare held fuel t cs = some x) :
    ∃ y0 y1 y2 y3 y4 n, x.1 = .agg [y0.1, y1.1, y2.1, y3.1, y4.1] ∧ cs.length = P.cellsOf t ∧ DataW.trod enc P w base spare held n f0.type ((cs.drop f0.offset).take (P.cellsOf f0.type)) = some y0 ∧
      DataW.trod enc P w base spare held n f1.type ((cs.drop f1.offset).take (P.cellsOf f1.type)) = some y1 ∧ DataW.trod enc P w base spare held n f2.type ((cs.drop f2.offset).take (P.cellsOf f2.type)) = some y2 ∧
      DataW.trod enc P w base spare held n f3.type ((cs.drop f3.offset).take (P.cellsOf f3.type)) = some y3 ∧ DataW.trod enc P w base spare held n f4.type ((cs.drop f4.offset).take (P.cellsOf f4.type)) = some y4 := by
  obtain ⟨xs, n, _, rfl, hl, hlen, hf⟩ := DataW.trod_struct ht h
  match xs, hlen with
  | [y0, y1, y2, y3, y4], _ => exact ⟨y0, y1, y2, y3, y4, n, by simp, hl, by simpa using hf 0 f0 rfl, by simpa using hf 1 f1 rfl, by simpa using hf 2 f2 rfl, by simpa using hf 3 f3 rfl, by simpa using hf 4 f4 rfl⟩
theorem opens_in {P : Program} {α : Type} [Inhabited α] {d : Kd α} {Wf : α → DataW H → Prop} {t e : TypeId} (ht : P.underlying t = some (.slice e)) (hce : P.cellsOf e = d.sz)
    (hop : ∀ n cs x, DataW.trod enc P w base spare held n e cs = some x → ∃ y, d.K w y cs ∧ Wf y x.1) {fuel : Nat} {cs : List Value} {x : DataW H × List MemPlace} (h : DataW.trod enc P w base spare held fuel t cs = some x) :
    ∃ (A : Option Addr) (cap : Nat) (xs : List α), cs = [.slice A xs.length cap] ∧ xs.length ≤ cap ∧ d.C w A xs.length xs ∧ ∀ y ∈ xs, ∃ D es sp, x.1 = .slice es sp ∧ D ∈ es ∧ Wf y D := by
  have shape : ∃ A len cap, cs = [.slice A len cap] := by
    rcases open_slice ht h with ⟨hcs, _⟩ | ⟨ad, len', cap', m, n, D, Pl, hcs, _⟩
    · exact ⟨_, _, _, hcs⟩
    · exact ⟨_, _, _, hcs⟩
  obtain ⟨A, len, cap, rfl⟩ := shape
  obtain ⟨xs, hl, hc, hC, hw⟩ := Go.Proofs.Scn.opens_slice_in (Wf := Wf) ht hce hop (a := A) (len := len) (cap := cap) (dd := x.1) (ps := x.2) ⟨fuel, by simpa [Value.cells] using h⟩
  subst hl
  exact ⟨A, cap, xs, rfl, hc, hC, hw⟩
/-- how many there are in a slice that came in -/
theorem opens_len {P : Program} {t e : TypeId} (ht : P.underlying t = some (.slice e)) {fuel : Nat} {A : Option Addr} {len cap : Nat} {x : DataW H × List MemPlace} (h : DataW.trod enc P w base spare held fuel t [.slice A len cap] = some x) (hw : ∀ n ∈ x.1.weights P t, n ≤ reachBytes) : len * P.bytesOf e ≤ reachBytes := by
  rcases open_slice ht h with ⟨hcs, _⟩ | ⟨ad, len', cap', m, n, D, Pl, hcs, _, _, _, hmm, hxx, _⟩
  · cases hcs
    rw [Nat.zero_mul]
    exact Nat.zero_le _
  · cases hcs
    have hlm : len ≤ m := by rw [hmm]; split <;> omega
    refine Nat.le_trans (Nat.mul_le_mul_right _ ?_) (hw ((((List.range len).map D).length + ((List.range (m - len)).map fun j => D (len + j)).length) * P.bytesOf e) (by rw [hxx, DataW.weights, ht]; exact List.mem_cons_self))
    rw [List.length_map, List.length_range]
    omega
def light (P : Program) (t : TypeId) (D : DataW H) : Prop := ∀ n ∈ D.weights P t, n ≤ reachBytes
theorem light_in {P : Program} {t e : TypeId} (ht : P.underlying t = some (.slice e)) {es sp : List (DataW H)} (h : light P t (.slice es sp)) {D : DataW H} (hD : D ∈ es) : light P e D := by
  intro n hn
  refine h n ?_
  rw [DataW.weights, ht]
  exact List.mem_cons_of_mem _ (List.mem_append_left _ (Go.Proofs.Scn.weightsAll_mem hD hn))
abbrev okS (l : List ByteArray) : Prop := ∀ s ∈ l, s.size ≤ 140737488355328
theorem open_strs {n : Nat} {cs : List Value} {x : DataW H × List MemPlace} (h : DataW.trod enc Tryd.prog w base spare held n 42 cs = some x) :
    ∃ (A : Option Addr) (cap : Nat) (l : List ByteArray), cs = [.slice A l.length cap] ∧ l.length ≤ cap ∧ Kd.string.C w A l.length l ∧ (light Tryd.prog 42 x.1 → okS l) := by
  obtain ⟨A, cap, l, h1, h2, h3, h4⟩ := opens_in (d := Kd.string) (Wf := fun s D => D = .lit (.string s.data.toList)) Tryd.underlying42 (by kernel_rfl) (fun n cs x h => by obtain ⟨s, rfl, hx, _⟩ := DataW.trod_string Tryd.underlying9 h; exact ⟨s, rfl, by rw [hx]⟩) h
  refine ⟨A, cap, l, h1, h2, h3, fun hl s hs => ?_⟩
  obtain ⟨D, es, sp, e1, e2, rfl⟩ := h4 s hs
  rw [e1] at hl
  have := light_in Tryd.underlying42 hl e2 s.data.toList.length (by simp [DataW.weights])
  rw [← sz] at this
  exact Nat.le_trans this (by decide)
set_option maxRecDepth 100000 in
theorem open44 {n : Nat} {cs : List Value} {x : DataW H × List MemPlace} (h : DataW.trod enc Tryd.prog w base spare held n 44 cs = some x) :
    ∃ y : S44, k44.K w y cs ∧ (light Tryd.prog 44 x.1 → small (c50 y)) := by
  obtain ⟨y0, y1, y2, y3, y4, m, hx, hl, h0, h1, h2, h3, h4⟩ := trod_struct5 Tryd.underlying44 h
  have hl5 : cs.length = 5 := hl.trans (by kernel_rfl)
  have c9 : Tryd.prog.cellsOf 9 = 1 := by kernel_rfl
  have c42 : Tryd.prog.cellsOf 42 = 1 := by kernel_rfl
  have c4 : Tryd.prog.cellsOf 4 = 1 := by kernel_rfl
  match cs, hl5 with
  | [a, b, c, d, e], _ =>
    obtain ⟨s0, g0, e0, _⟩ := DataW.trod_string Tryd.underlying9 h0
    obtain ⟨A1, p1, l1, g1, q1, C1, z1⟩ := open_strs h1
    obtain ⟨A2, p2, l2, g2, q2, C2, z2⟩ := open_strs h2
    obtain ⟨b3, g3, _⟩ := DataW.trod_bool Tryd.underlying4 h3
    obtain ⟨b4, g4, _⟩ := DataW.trod_bool Tryd.underlying4 h4
    simp [c9] at g0
    simp [c42] at g1 g2
    simp [c4] at g3 g4
    subst g0; subst g1; subst g2; subst g3; subst g4
    refine ⟨⟨s0, l1, l2, b3, b4⟩, ⟨_, _, rfl, rfl, ⟨_, _, rfl, ⟨A1, p1, rfl, q1, C1⟩, ⟨_, _, rfl, ⟨A2, p2, rfl, q2, C2⟩, ⟨_, _, rfl, rfl, rfl⟩⟩⟩⟩, fun hli => ?_⟩
    rw [hx] at hli
    have key : ∀ n, n ∈ y0.1.weights Tryd.prog 9 ∨ n ∈ y1.1.weights Tryd.prog 42 ∨ n ∈ y2.1.weights Tryd.prog 42 → n ≤ reachBytes := by
      intro n hn
      refine hli n ?_
      rw [DataW.weights, Tryd.underlying44]
      simp only [DataW.weightsEach, List.map_cons, List.mem_append]
      rcases hn with hn | hn | hn
      · exact Or.inl hn
      · exact Or.inr (Or.inl hn)
      · exact Or.inr (Or.inr (Or.inl hn))
    refine ⟨?_, z1 fun n hn => key n (Or.inr (Or.inl hn)), z2 fun n hn => key n (Or.inr (Or.inr hn))⟩
    have := key s0.data.toList.length (Or.inl (by rw [e0]; simp [DataW.weights]))
    rw [← sz] at this
    exact Nat.le_trans this (by decide)
/-- what is asked of a selector that came in -/
def smallR (l0 : List S44) : Prop := l0.length < 1954687338268 ∧ ∀ y ∈ l0, small (c50 y)
instance : Inhabited S44 := ⟨z44⟩
set_option maxRecDepth 100000 in
theorem open25 {n : Nat} {cs : List Value} {x : DataW H × List MemPlace} (h : DataW.trod enc Tryd.prog w base spare held n 25 cs = some x) :
    ∃ (A0 : Option Addr) (c0 : Nat) (l0 : List S44) (A1 : Option Addr) (c1 : Nat) (l1 : List Bool), cs = [.slice A0 l0.length c0, .slice A1 l1.length c1] ∧ k44.C w A0 l0.length l0 ∧ l0.length ≤ c0 ∧ Kd.bool.C w A1 l1.length l1 ∧ l1.length ≤ c1 ∧ (light Tryd.prog 25 x.1 → smallR l0) := by
  obtain ⟨y0, y1, m, hx0, hl, h0, h1⟩ := trod_struct2 Tryd.underlying25 h
  have hx : x.1 = .agg [y0.1, y1.1] := by rw [hx0]
  have hl2 : cs.length = 2 := hl.trans (by kernel_rfl)
  have c22 : Tryd.prog.cellsOf 22 = 1 := by kernel_rfl
  have c23 : Tryd.prog.cellsOf 23 = 1 := by kernel_rfl
  match cs, hl2 with
  | [a, b], _ =>
    have h00 := h0
    obtain ⟨A0, p0, l0, g0, q0, C0, z0⟩ := opens_in (d := k44) (Wf := fun y D => light Tryd.prog 44 D → small (c50 y)) Tryd.underlying22 (by kernel_rfl) (fun n cs x h => open44 h) h0
    obtain ⟨A1, p1, l1, g1, q1, C1, _⟩ := opens_in (d := Kd.bool) (Wf := fun _ _ => True) Tryd.underlying23 (by kernel_rfl) (fun n cs x h => by obtain ⟨s, rfl, _⟩ := DataW.trod_bool Tryd.underlying4 h; exact ⟨s, rfl, trivial⟩) h1
    rw [g0] at h00
    simp [c22] at g0
    simp [c23] at g1
    subst g0; subst g1
    refine ⟨A0, p0, l0, A1, p1, l1, rfl, C0, q0, C1, q1, fun hli => ?_⟩
    have hl0 : light Tryd.prog 22 y0.1 := by
      intro n hn
      refine hli n ?_
      rw [hx, DataW.weights, Tryd.underlying25]
      simp only [DataW.weightsEach, List.map_cons, List.mem_append]
      exact Or.inl hn
    refine ⟨?_, fun y hy => ?_⟩
    · have := opens_len Tryd.underlying22 h00 hl0
      rw [show Tryd.prog.bytesOf 44 = 72 by kernel_rfl] at this
      have hr : reachBytes = 140737488351232 := rfl
      omega
    · obtain ⟨D, es, sp, e1, e2, e3⟩ := z0 y hy
      rw [e1] at hl0
      exact e3 (light_in Tryd.underlying22 hl0 e2)
set_option maxRecDepth 100000 in
theorem arg25 {v : Value} {dd : DataW H} {ps : List MemPlace} (hv : ∃ cs, v = .agg cs) (h : DataW.Trod enc Tryd.prog w base spare held 25 v dd ps) :
    ∃ (A0 : Option Addr) (c0 : Nat) (l0 : List S44) (A1 : Option Addr) (c1 : Nat) (l1 : List Bool), v = .agg #[.slice A0 l0.length c0, .slice A1 l1.length c1] ∧ k44.C w A0 l0.length l0 ∧ l0.length ≤ c0 ∧ Kd.bool.C w A1 l1.length l1 ∧ l1.length ≤ c1 ∧ (light Tryd.prog 25 dd → smallR l0) := by
  obtain ⟨cs, rfl⟩ := hv
  obtain ⟨fuel, hf⟩ := h
  obtain ⟨A0, c0, l0, A1, c1, l1, e, r⟩ := open25 hf
  refine ⟨A0, c0, l0, A1, c1, l1, ?_, r⟩
  have e : cs.toList = [.slice A0 l0.length c0, .slice A1 l1.length c1] := e
  rw [← e]
instance : Inhabited S25 := ⟨z25⟩
end Go.Proofs.YtdifaomkaekglabDoor.Pure
