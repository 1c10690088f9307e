/- scan.Words: contract of a function of the given program, proved by walking its text; no condition beside those that each theorem states. -/
import Derived.Maps.AppendAt
import Derived.Test.YtdifaomkaekglabDoorScC
set_option linter.unusedVariables false
set_option linter.unusedSimpArgs false
namespace Go.Proofs.Scn
open Go.RowKit Go.Lib Go.Shelf Go.Proofs.YtdifaomkaekglabDoorW.PrintWords
attribute [local go_sem] Oper.semAt_some
theorem words_fn (s : ByteArray) (w : World) :
    Calls Tryd.prog 33 #[.string s] w fun e w' => e = .returned (.func (.func 46) #[] #[.pointer (some ⟨w.heap.size, 0, none⟩)]) ∧ w' = w.alloc (.cells #[.string s] 9) := by
  go_enter Tryd.func33, Tryd.ntmps33
  go_wp2
  go_ret
  exact ⟨rfl, rfl⟩
/-- what the loop's rounds keep and fill: the list's variable, its row; the loop's own record -/
def WJ (n0 : Nat) (w : World) (rec : Loop) (pre : List ByteArray) (W : World) : Prop :=
  (∃ v, Boxed W n0 42 v ∧ W.ownsRow (n0 + 2) 9 1 v pre.length (pre.map Value.string)) ∧ Below n0 w W ∧ W.heap[n0 + 3]? = some (.loop rec) ∧ W.heap[n0 + 2]? = some (.deferred (some []))
theorem WJ.below {n0 : Nat} {w : World} {rec : Loop} {pre : List ByteArray} {A A' : World} (h : WJ n0 w rec pre A) (hb : Below A.heap.size A A') : WJ n0 w rec pre A' := by
  obtain ⟨⟨v, hv, hr⟩, hB, hl, hd⟩ := h
  have hsz : n0 ≤ A.heap.size := Nat.le_of_lt hv.lt
  refine ⟨⟨v, Boxed.belowW hv hb, hr.kept (grown_of_below hb none) ?_⟩, hB.trans (hb.mono hsz), (hb.block _ (Array.getElem?_eq_some_iff.1 hl).1).trans hl, (hb.block _ (Array.getElem?_eq_some_iff.1 hd).1).trans hd⟩
  rcases hr.2 with ⟨rfl, _⟩ | ⟨g, cap, cur, rfl, hg, _⟩
  · exact .inl rfl
  · exact .inr (by simp [Value.ownBlock])
theorem WJ.set {n0 : Nat} {w : World} {rec : Loop} {pre : List ByteArray} {A : World} (h : WJ n0 w rec pre A) (u : Value) : WJ n0 w rec pre (A.setCell ⟨n0 + 1, 0, none⟩ u) := by
  obtain ⟨⟨v, hv, hr⟩, hB, hl, hd⟩ := h
  refine ⟨⟨v, hv.other (by omega) u, hr.kept (grownBy_setCell' A (n0 + 1) u) ?_⟩, hB.setCell (p := ⟨n0 + 1, 0, none⟩) (by simp) u, (Below.heap_setCell _ _ _ _ (by simp)).trans hl, (Below.heap_setCell _ _ _ _ (by simp)).trans hd⟩
  rcases hr.2 with ⟨rfl, _⟩ | ⟨g, cap, cur, rfl, hg, _⟩
  · exact .inl rfl
  · exact .inr (by simp [Value.ownBlock]; omega)
theorem owns_le {W : World} {b b' : Nat} {e size k : Nat} {v : Value} {xs : List Value} (h : W.ownsRow b e size v k xs) (hb : b' ≤ b) : W.ownsRow b' e size v k xs :=
  ⟨h.1, h.2.imp id (fun ⟨g, cap, cur, h1, h2, h3⟩ => ⟨g, cap, cur, h1, Nat.le_trans hb h2, h3⟩)⟩
theorem owns_ne {W : World} {b : Nat} {e size k : Nat} {v : Value} {xs : List Value} (h : W.ownsRow b e size v k xs) {j : Nat} (hj : j < b) : some j ≠ v.ownBlock := by
  rcases h.2 with ⟨rfl, _⟩ | ⟨g, cap, cur, rfl, hg, _⟩
  · simp [Value.ownBlock]
  · simp [Value.ownBlock]; omega
theorem owns_set {W : World} {b : Nat} {e size k : Nat} {v : Value} {xs : List Value} (h : W.ownsRow b e size v k xs) {j : Nat} (hj : j < b) (u : Value) : (W.setCell ⟨j, 0, none⟩ u).ownsRow b e size v k xs :=
  h.kept (grownBy_setCell' W j u) (.inr (owns_ne h hj).symm)
theorem Tryd.infoS : (Tryd.prog.info? 9).map (fun i => (i.zero, i.size, i.bytes)) = some (some (.string ⟨#[]⟩), 1, 16) := by kernel_rfl
/-- an outermost range over a closure, at the wide fence: its record, named -/
theorem range_outer {P : Program} {n : Nat} {g : Operand} {ps : Array Tmp} {assign body : Code} {Q : Exit → Act → World → Prop} {a : Act} {w : World} {gf : Nat} {lb : Array Value}
    (hn : 1 ≤ n) (hg : a.eval g = .func (.func gf) #[] lb) (eg : ∀ args w, (callFunc gf args).run P w = .ok (.enter gf args) w)
    (h : ∀ rec : Loop, rec.state = .ready → rec.pending = none → rec.tmps = a.tmps → rec.params = ps → rec.assign = assign → rec.body = body →
      CallsIn Fence.wide (n - 1) P gf (#[.func (.yield (w.heap.size + 1)) #[] #[]] ++ lb) ((w.alloc (.deferred (some []))).alloc (.loop rec)) (rangePost Fence.wide n P (w.heap.size + 1) Q { a with defers := [{ target := .collected w.heap.size, args := #[] }] ++ a.defers })) :
    (Code.rangeFunc g ps assign body).wpIn Fence.wide n P Q a w := by
  refine wpIn_rangeFunc ?_
  intro fn hfn
  obtain ⟨rec, hrec⟩ : ∃ rec : Loop, rec = { state := .ready, pending := none, fn, tmps := a.tmps, params := ps, assign, body, defers := w.heap.size } := ⟨_, rfl⟩
  have he : (Instr.enterLoop fn a.tmps ps assign body Fence.wide.round).run P w = .ok (w.heap.size + 1, [{ target := .collected w.heap.size, args := #[] }]) ((w.alloc (.deferred (some []))).alloc (.loop rec)) := by
    rw [hrec]
    exact run_enterLoop_outer _ _ _ _ _
  have hh := h rec (by rw [hrec]) (by rw [hrec]) (by rw [hrec]) (by rw [hrec]) (by rw [hrec]) (by rw [hrec])
  obtain ⟨W1, hW1⟩ : ∃ W1, (w.alloc (.deferred (some []))).alloc (.loop rec) = W1 := ⟨_, rfl⟩
  rw [hW1] at he hh
  refine ⟨w.heap.size + 1, [{ target := .collected w.heap.size, args := #[] }], W1, { target := .fn (.func gf) lb, args := #[.func (.yield (w.heap.size + 1)) #[] #[]] }, W1, gf, #[.func (.yield (w.heap.size + 1)) #[] #[]] ++ lb, W1, ?_, ?_, ?_, ?_, ?_, ?_⟩
  · exact he
  · simp only [resolve, hg]
    simp [go_sem]
  · intro _ _
    exact True.intro
  · simp [invoke, go_sem, eg]
  · exact fun _ => hn
  · exact hh
set_option maxRecDepth 100000 in
set_option maxHeartbeats 4000000 in
theorem words_any (s : ByteArray) (w : World) (hs : s.size < 4294967281) :
    Calls Tryd.prog 17 #[.string s] w fun e w' => ∃ v0_ : Value, e = .returned v0_ ∧ Kd.R Kd.string 9 w' w.heap.size (fun _ => True) v0_ (wordsV s) ∧ Below w.heap.size w w' := by
  refine (callsIn_wide (n := 6)).1 ?_
  refine callsIn_of_wp_marks Tryd.func17 rfl trivial ?_ rfl
  simp only [Tryd.ntmps17, List.size_toArray, List.length_cons, List.length_nil, Nat.reduceAdd, Nat.reduceSub, Array.replicate_succ, Array.replicate_zero, List.push_toArray, List.append_toArray, List.nil_append, List.cons_append]
  gi_wp2_with fail
  refine ⟨trivial, (callsIn_wide.2 (words_fn _ _)).mono ?_⟩
  rintro e w' ⟨rfl, rfl⟩
  gi_wp2_with fail
  refine range_outer (by decide) (gf := 46) (lb := #[.pointer (some ⟨w.heap.size + 1, 0, none⟩)]) rfl (enters_of Tryd.func46 (by kernel_rfl) rfl) ?_
  intro rec h1 h2 h3 h4 h5 h6
  have h0 : WJ w.heap.size w rec [] ((((w.alloc (.cells #[.slice none 0 0] 42)).alloc (.cells #[.string s] 9)).alloc (.deferred (some []))).alloc (.loop rec)) := by
    refine ⟨⟨.slice none 0 0, ?_, World.ownsRow_nil _ _ _ _⟩, ?_, ?_, ?_⟩
    · exact (((Boxed.new w 42 (.slice none 0 0)).alloc _).alloc _).alloc _
    · exact (((((Below.refl _ w).alloc (Nat.le_refl _) _).alloc (by simp) _).alloc (by simp; omega) _).alloc (by simp; omega) _)
    · have := World.alloc_heap_new (((w.alloc (.cells #[.slice none 0 0] 42)).alloc (.cells #[.string s] 9)).alloc (.deferred (some []))) (.loop rec)
      simpa only [World.size_alloc] using this
    · have := World.alloc_heap_new ((w.alloc (.cells #[.slice none 0 0] 42)).alloc (.cells #[.string s] 9)) (.deferred (some []))
      refine (Below.heap_alloc _ _ _ (by simp)).trans ?_
      simpa only [World.size_alloc] using this
  have hBs : Boxed ((((w.alloc (.cells #[.slice none 0 0] 42)).alloc (.cells #[.string s] 9)).alloc (.deferred (some []))).alloc (.loop rec)) (w.heap.size + 1) 9 (.string s) := by
    have := Boxed.new (w.alloc (.cells #[.slice none 0 0] 42)) 9 (.string s)
    simp only [World.size_alloc] at this
    exact (this.alloc _).alloc _
  refine (words_iter (6 - 1) _ (w.heap.size + 1) (WJ w.heap.size w rec) s hs (fun pre A A' h hb => h.below hb) (fun pre A v h => h.set v) ?_ _ hBs h0).mono ?_
  · intro pre x W hW hbx hxs hpl
    obtain ⟨⟨v, hv, hr⟩, hB, hl, hd⟩ := hW
    simp only [World.size_alloc]
    refine ⟨rec.fn, _, rec.assign, rec.body, run_yield (r := rec) hl (by rw [h4]; rfl), roundIn_of_wpIn trivial ?_⟩
    rw [h3, h4, h5, h6]
    gi_wp2
    refine ⟨_, run_beginRound hl h1, ?_⟩
    obtain ⟨X, hX⟩ : ∃ X, W.putObj (w.heap.size + 3) (.loop { rec with state := .busy }) = X := ⟨_, rfl⟩
    have hgX : W.grownBy X (some (w.heap.size + 3)) := by rw [← hX]; exact grownBy_putObj' _ _ _
    have hlt : w.heap.size + 3 < W.heap.size := (Array.getElem?_eq_some_iff.1 hl).1
    have hlX : X.heap[w.heap.size + 3]? = some (.loop { rec with state := .busy }) := by rw [← hX]; exact World.putObj_heap_same hlt
    have hdX : X.heap[w.heap.size + 2]? = some (.deferred (some [])) := by rw [← hX]; exact (World.putObj_heap_other (by omega)).trans hd
    have hvX : Boxed X w.heap.size 42 v := hv.kept hgX (by simp)
    have hbX : Boxed X (w.heap.size + 1) 9 (.string x.1) := hbx.kept hgX (by simp)
    have hrX : X.ownsRow (w.heap.size + 2) 9 1 v pre.length (pre.map Value.string) := by rw [← hX]; exact ownsRow_putObj hr _ hl rfl
    have hBX : Below w.heap.size w X := hB.grown hgX hB.size (fun k e => by cases e; omega)
    have hXs : w.heap.size + 3 < X.heap.size := (Array.getElem?_eq_some_iff.1 hlX).1
    have gX : (W.putObj (w.heap.size + 3) (.loop { rec with state := .busy })) = X := hX
    show Code.wpIn _ _ _ _ _ _ (W.putObj (w.heap.size + 3) (.loop { rec with state := .busy }))
    rw [gX]
    have HH : Aside (X.heap[w.heap.size + 3]? = some (.loop { rec with state := .busy }) ∧ X.heap[w.heap.size + 2]? = some (.deferred (some [])) ∧ Boxed X w.heap.size 42 v ∧ Boxed X (w.heap.size + 1) 9 (.string x.1) ∧ X.ownsRow (w.heap.size + 2) 9 1 v pre.length (pre.map Value.string) ∧ Below w.heap.size w X) := ⟨hlX, hdX, hvX, hbX, hrX, hBX⟩
    have hcX := hvX.cell
    have hfX := hvX.frozen
    clear hgX hlt hlX hdX hvX hbX hBX gX hX hv hr hB hl hd hbx h3 h4 h5 h6 hBs h0
    obtain ⟨i0, hi, hz0, hz1, hz2⟩ := info_parts Tryd.infoS
    gi_wp2_with (gi_at_builtin; refine wpListIn_append_own _ rfl _ _ 42 rfl (w.heap.size + 2) 9 i0 (.string ⟨#[]⟩) 1 16 Tryd.underlying42 hi hz0 hz1 hz2 rfl (by decide) _ _ _ rfl (hrX.alloc _) ⟨X.heap.size, 0, none⟩ 1 1 [.string x.2] rfl rfl (cell_one_new _ _ _) (by simp [Value.oneCell']) (by unfold maxLen; omega) (by omega) (by simp; omega) ?_; intro v' w1 hown' hgrow _; obtain ⟨g', cap', rfl⟩ := ownsRow_succ hown'; obtain ⟨hv1, hv2, hr2, hk2, hb2⟩ := HH.out.2.2.1.appended (by decide) (owns_le HH.out.2.2.2.2.1 (by omega)) (by omega) (Nat.le_refl _) (owns_le (b' := w.heap.size) hown' (by omega)) hgrow; have hc1 := hv1.cell; have hf1 := hv1.frozen)
    have hl5 := hk2.same _ _ HH.out.1 rfl
    have hd5 := hk2.same _ _ HH.out.2.1 rfl
    have erec : ({ ({ rec with state := .busy } : Loop) with state := (if (none : Option Code).isNone then .ready else .done), pending := none } : Loop) = rec := by
      cases rec
      simp at h1 h2
      subst h1 h2
      rfl
    have hend := run_endRound (P := Tryd.prog) none hl5
    rw [erec] at hend
    refine ⟨_, _, hend, rfl, ⟨⟨_, hv2.kept (grownBy_putObj' _ _ _) (by simp), ?_⟩, ?_, ?_, ?_⟩, ?_⟩
    · rw [List.length_append, List.map_append]
      exact ownsRow_putObj (owns_set hown' (by omega) _) _ hl5 rfl
    · exact (HH.out.2.2.2.2.2.trans hb2).grown (grownBy_putObj' _ _ _) (HH.out.2.2.2.2.2.trans hb2).size (fun k e => by cases e; omega)
    · exact World.putObj_heap_same (Array.getElem?_eq_some_iff.1 hl5).1
    · exact (World.putObj_heap_other (by omega)).trans hd5
    · exact (((HH.out.2.2.2.1.alloc _).kept hgrow (owns_ne hrX (by omega))).other (by omega) _).kept (grownBy_putObj' _ _ _) (by simp)
  · rintro e W' ⟨⟨v, rfl⟩, ⟨u, hu, hr⟩, hB, hl, hd⟩
    simp only [World.size_alloc]
    refine ⟨none, _, by have := run_endLoop (P := Tryd.prog) hl (by rw [h1]; simp); rw [h2] at this; exact this, ?_⟩
    obtain ⟨Y, hY⟩ : ∃ Y, W'.putObj (w.heap.size + 3) (.loop { rec with state := .exhausted, pending := none }) = Y := ⟨_, rfl⟩
    have hgY : W'.grownBy Y (some (w.heap.size + 3)) := by rw [← hY]; exact grownBy_putObj' _ _ _
    have huY : Boxed Y w.heap.size 42 u := hu.kept hgY (by simp)
    have hrY : Y.ownsRow (w.heap.size + 2) 9 1 u (wordsV s).length ((wordsV s).map Value.string) := by rw [← hY]; exact ownsRow_putObj hr _ hl rfl
    have hBY : Below w.heap.size w Y := hB.grown hgY hB.size (fun k e => by cases e; omega)
    have hdY : Y.heap[w.heap.size + 2]? = some (.deferred (some [])) := by rw [← hY]; exact (World.putObj_heap_other (by omega)).trans hd
    have hH : Aside (Y.ownsRow (w.heap.size + 2) 9 1 u (wordsV s).length ((wordsV s).map Value.string) ∧ Below w.heap.size w Y) := ⟨hrY, hBY⟩
    have hcY := huY.cell
    have hfY := huY.frozen
    show Exit.inBlock 0 _ Exit.normal _ (W'.putObj (w.heap.size + 3) (.loop { rec with state := .exhausted, pending := none }))
    rw [hY]
    clear hgY hrY hBY hY hu hr hB hl hd h3 h4 h5 h6 hBs h0
    gi_wp2
    refine ⟨by simp, .inl ⟨_, _, rfl, run_takeDeferred hdY, ?_⟩⟩
    have hP := ownsRow_putObj (o' := .deferred none) hH.out.1 hdY rfl
    refine ⟨_, results_tmp rfl _ _ _, ?_⟩
    refine ⟨u, rfl, ⟨fun _ _ => True.intro, _, owns_le hP (by omega), Kd.reps_scalar _⟩, hH.out.2.grown (grownBy_putObj' _ _ _) hH.out.2.size (fun k e => by cases e; omega)⟩
end Go.Proofs.Scn
