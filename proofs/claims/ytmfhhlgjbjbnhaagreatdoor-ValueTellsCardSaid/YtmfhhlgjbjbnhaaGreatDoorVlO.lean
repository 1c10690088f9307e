/- A value that comes in: a pair of numbers; what a row that lists the library's tables says of them; no condition beside those that each theorem states. -/
import Derived.Test.YtmfhhlgjbjbnhaaGreatDoorVaF
import Derived.Test.YtmfhhlgjbjbnhaaGreatDoorRows
import Derived.WideShapes
import Derived.HandedShaped
import Derived.MakeChecks
import Derived.LaidMore
import Derived.Lib.TrailingZeros
set_option linter.unusedVariables false
set_option linter.unusedSimpArgs false
namespace Go.Proofs.Val
open Go Go.RowKit
set_option maxRecDepth 100000
theorem cell_i64 {W : World} {r : Reach} {base : Nat} {u : TypeId} {v : Value} (hu : Tryz.prog.underlying u = some (.int .i64)) (h : Cell.okWide Tryz.prog W r base u v) : ∃ n, v = .int .i64 n := by
  simp only [Cell.okWide, hu] at h
  cases v <;> simp_all [Cell.ok]
theorem val_types : Tryz.prog.cellTypes Tryz.prog.depth 23 = some [3, 2] := by kernel_rfl
theorem val_of {W : World} {r : Reach} {base : Nat} {v : Value} (h : Value.okWide Tryz.prog W r base 23 v) : ∃ a b, v = .agg #[.int .i64 a, .int .i64 b] := by
  simp only [Value.okWide, Tryz.underlying23] at h
  obtain ⟨cs, rfl, hsz, ts, hts, -, hc⟩ := h
  rw [val_types] at hts
  obtain rfl := Option.some.inj hts
  have hsz : cs.size = 2 := hsz.trans (by kernel_rfl)
  have hall : ∀ i, i < 2 → ∃ n, cs[i]? = some (.int .i64 n) := fun i hi => by
    have e : cs[i]? = some cs[i] := Array.getElem?_eq_getElem (by omega)
    obtain ⟨u, hu, ho⟩ := hc i _ e
    have hu : u = 3 ∨ u = 2 := by simpa using List.mem_of_getElem? hu
    obtain ⟨n, hn⟩ := cell_i64 (by rcases hu with rfl | rfl <;> first | exact Tryz.underlying3 | exact Tryz.underlying2) ho
    exact ⟨n, by rw [e, hn]⟩
  obtain ⟨a, ha⟩ := hall 0 (by omega)
  obtain ⟨b, hb⟩ := hall 1 (by omega)
  refine ⟨a, b, congrArg Value.agg (Array.ext_getElem? fun i => ?_)⟩
  by_cases h0 : i = 0
  · subst h0; exact ha
  by_cases h1 : i = 1
  · subst h1; exact hb
  rw [Array.getElem?_eq_none (by omega), Array.getElem?_eq_none (by simp; omega)]
theorem laid_tail {P : Program} {W : World} {x : String × DataW Unit} {rest : List (String × DataW Unit)} (h : laidMet P (x :: rest) W) : laidMet P rest W := by
  obtain ⟨ps, ⟨g, t, cs, fuel, p, q, h1, h2, h3, h4, h5, h6⟩, hn, hr⟩ := h
  subst h6
  exact ⟨q, h5, (List.nodup_append.1 hn).2.1, fun b off hm => hr b off (List.mem_append_right _ hm)⟩
theorem tbs_of {rest : List (String × DataW Unit)} {W : World} (h : laidMet Tryz.prog (("math/bits.deBruijn32tab", Go.Proofs.YtmfhhlgjbjbnhaaGreatDoor.Rows.laid_math_bits_deBruijn32tab) :: ("math/bits.deBruijn64tab", Go.Proofs.YtmfhhlgjbjbnhaaGreatDoor.Rows.laid_math_bits_deBruijn64tab) :: ("internal/strconv.uint64pow10", Go.Proofs.YtmfhhlgjbjbnhaaGreatDoor.Rows.laid_internal_strconv_uint64pow10) :: rest) W.memory) : Tbs W := by
  have h2 := laid_tail h
  have h3 := laid_tail h2
  have g2 : Tryz.prog.globalNamed "math/bits.deBruijn64tab" = some 7 := by kernel_rfl
  have t2 : Lib.TabIs Tryz.prog W.memory "math/bits.deBruijn64tab" .u8 (Lib.deBruijn64tab.map fun n : Nat => (n : Int)) :=
    Lib.tabIs_of_head (zs := Lib.deBruijn64tab.map fun n : Nat => (n : Int)) g2 (t := 120) (by kernel_rfl) Tryz.underlying120 Tryz.underlying5 (by kernel_rfl) (by kernel_rfl) h2
  have t3 : Lib.TabIs Tryz.prog W.memory "internal/strconv.uint64pow10" .u64 Lib.pow10Tab :=
    Lib.tabIs_of_head (zs := Lib.pow10Tab) gn10 (t := 93) (by kernel_rfl) Tryz.underlying93 Tryz.underlying82 (by kernel_rfl) (by kernel_rfl) h3
  refine ⟨t3, ?_⟩
  have c := t2.cell g2 15 (by decide)
  exact c
variable {H : Type} {enc : TypeId × Value → H}
theorem handed_laid_X {a : Assume} {C : Checked} {os : Os} {f : FuncId} {fn : Func} {s : ChangeSpec} {conds : List PathCond} {apart fresh handsOn again : Bool} {X : World → Array Value → Prop}
    (own : ownKnob C.prog.godebug = none) (started : os.Started) (noInit : C.prog.inits.idxOf? f = none) (hfn : C.prog.funcs[f]? = some fn)
    (witness : ∃ (w : World) (tape : Tape) (i : Input), w.os = os ∧ (w.forCall tape i).Shaped C.prog ∧ i.vars = [] ∧ Input.okWide C.prog (w.forCall tape i) .any w.heap.size f i ∧
      ((s.pre enc C.prog fn conds apart (w.forCall tape i).memory i.args ∧ X (w.forCall tape i).memory i.args) ∧ sizedMet enc C.prog fn (OpenSpec.ofChange s) apart (w.forCall tape i).memory i.args) ∧ a.holds C.prog (lone (Frame.enter C.prog f i.args .normal) [] (w.forCall tape i)))
    (contract : ∀ (W : World) (base : Nat) (args : Array Value) (ds gs : List (DataW H)) (before : List MemPlace),
      X W.memory args →
      (∀ (j : Nat) t v, fn.params[j]? = some t → args[j]? = some v → Value.okWide C.prog W .any base t v) →
      DataW.Whole enc C.prog fn.params.toList s.vars apart W args.toList ds gs before →
      (DataW.weightsEach C.prog (fn.params.toList ++ s.plain.varTypes C.prog) (ds ++ gs)).all (· ≤ reachBytes) = true →
      W.ShapedOpen C.prog →
      Calls C.prog f args W fun e W' => ∃ v, e = .returned v ∧ s.post enc C.prog fn apart fresh handsOn again W args v W') :
    ReturnsInHanded a C os f .any (fun w args => (s.pre enc C.prog fn conds apart w args ∧ X w args) ∧ sizedMet enc C.prog fn (OpenSpec.ofChange s) apart w args) (s.post enc C.prog fn apart fresh handsOn again) := by
  refine returnsInHanded_of_calls own started noInit witness ?_
  intro w tape i _ hsh _ hok hpre hholds
  obtain ⟨_, _, _, fn', hfn', _, _, _, _, hval⟩ := hok
  have e : fn' = fn := Option.some.inj (hfn'.symm.trans hfn)
  subst e
  obtain ⟨⟨⟨ds, gs, before, hw, hc⟩, hx⟩, hz⟩ := hpre
  have hw' := DataW.Whole.of_heap (w' := w.forCall tape i) (by rfl) hw
  refine (contract (w.forCall tape i) w.heap.size i.args ds gs before hx hval hw' (hz.weights hw) hsh).mono fun e W' ⟨v, he, hp⟩ => ?_
  subst he
  exact ChangeSpec.post_blind hp
end Go.Proofs.Val
