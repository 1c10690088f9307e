/- scan.words, an iterator that keeps its text in a captured variable: its contract, proved by walking its text; no condition beside those that each theorem states. -/
import Derived.RangeFuncNested
import Derived.RangeFuncBound
import Derived.RangeFuncCalls
import Derived.RangeFuncLeaves
import Derived.Shelf.Abstract
import Derived.Shelf.RegionOpen
import Derived.WalkKit
import Derived.OwnWalkIn
import Derived.TacticsInMore
import Derived.LoopNIn
import Derived.LoopIn
import Derived.Test.YtolfpgccebdlpaaGreatDoorTkB
import Derived.Maps.AppendAt
import Derived.Test.YtolfpgccebdlpaaGreatDoorWQPut
import Derived.Lib.ParseIntB
import Derived.Lib.ParseIntBCases
import Derived.Lib.SlTrimSet
import Derived.Lib.Strings
import Derived.Lib.IndexMore
import Derived.Lib.ItoaNum
set_option linter.unusedVariables false
set_option linter.unusedSimpArgs false
namespace Go.Proofs.Scn
open Go.RowKit Go.Lib Go.Shelf
attribute [local go_sem] Oper.semAt_some
/-! ### words -/
/-- where the first blank stands, or the end -/
def wordEnd (t : List UInt8) : Nat := if Lib.indexAny t [32, 9, 10, 13] < 0 then t.length else (Lib.indexAny t [32, 9, 10, 13]).toNat
def wordsF : Nat → List UInt8 → List (List UInt8)
  | 0, _ => []
  | k + 1, s => if wordEnd (Lib.trimLeftS s [32, 9, 10, 13]) = 0 then [] else (Lib.trimLeftS s [32, 9, 10, 13]).take (wordEnd (Lib.trimLeftS s [32, 9, 10, 13])) :: wordsF k ((Lib.trimLeftS s [32, 9, 10, 13]).drop (wordEnd (Lib.trimLeftS s [32, 9, 10, 13])))
def wordsV (s : ByteArray) : List ByteArray := (wordsF (s.size + 1) s.data.toList).map fun l => ⟨l.toArray⟩
theorem indexAny_le (cs : List UInt8) : ∀ l : List UInt8, Lib.indexAny l cs ≤ (l.length : Int)
  | [] => by simp [Lib.indexAny]
  | b :: l => by
    have ih := indexAny_le cs l
    unfold Lib.indexAny
    split
    · simp; omega
    · split
      · simp; omega
      · simp; omega
theorem wordEnd_le (t : List UInt8) : wordEnd t ≤ t.length := by
  unfold wordEnd
  have := indexAny_le [32, 9, 10, 13] t
  split <;> omega
theorem trimLeft_le (l cs : List UInt8) : (Lib.trimLeftS l cs).length ≤ l.length := (List.dropWhile_sublist _).length_le
def boxLen (B : Nat) (W : World) : Nat := match W.cell? ⟨B, 0, none⟩ with | some (.string s) => s.size | _ => 0
theorem boxLen_eq {B : Nat} {W : World} {t : TypeId} {s : ByteArray} (h : Boxed W B t (.string s)) : boxLen B W = s.size := by unfold boxLen; rw [h.cell]
theorem Boxed.belowW {W W' : World} {B : Nat} {t : TypeId} {v : Value} (h : Boxed W B t v) (hb : Below W.heap.size W W') : Boxed W' B t v := (hb.block B h.lt).trans h
theorem ext_drop (t : List UInt8) (m : Nat) : (⟨t.toArray⟩ : ByteArray).extract m t.length = ⟨(t.drop m).toArray⟩ := by
  rw [Lib.extract_mk, List.take_of_length_le (by simp)]
theorem ext_take (t : List UInt8) (m : Nat) : (⟨t.toArray⟩ : ByteArray).extract 0 m = ⟨(t.take m).toArray⟩ := by
  rw [Lib.extract_mk, List.drop_zero, Nat.sub_zero]
set_option maxRecDepth 100000 in
set_option maxHeartbeats 4000000 in
/-- the iterator: for every loop body that goes on, and keeps the iterator's own variable; J abides new blocks and that variable's turns -/
theorem words_iter (n : Nat) (l Bs : Nat) (J : List ByteArray → World → Prop) (s : ByteArray) (hs : s.size < 4294967281)
    (hJ : ∀ (pre : List ByteArray) (A A' : World), J pre A → Below A.heap.size A A' → J pre A') (hS : ∀ (pre : List ByteArray) (A : World) (v : Value), J pre A → J pre (A.setCell ⟨Bs, 0, none⟩ v))
    (hY : ∀ (pre : List ByteArray) (x : ByteArray × ByteArray) (W : World), J pre W → Boxed W Bs 9 (.string x.1) → x.2.size ≤ s.size → pre.length < s.size → YieldAt Fence.wide (n - 1) Tryz.prog l #[.string x.2] W fun e W' => e = .returned (.bool true) ∧ J (pre ++ [x.2]) W' ∧ Boxed W' Bs 9 (.string x.1))
    (W : World) (hBs : Boxed W Bs 9 (.string s)) (h0 : J [] W) :
    CallsIn Fence.wide n Tryz.prog 124 #[.func (.yield l) #[] #[], .pointer (some ⟨Bs, 0, none⟩)] W fun e W' => (∃ v, e = .returned v) ∧ J (wordsV s) W' := by
  refine callsIn_of_wp Tryz.func124 rfl trivial ?_ rfl
  simp only [Tryz.ntmps124, List.size_toArray, List.length_cons, List.length_nil, Nat.reduceAdd, Nat.reduceSub, Array.replicate_succ, Array.replicate_zero, List.push_toArray, List.append_toArray, List.nil_append, List.cons_append]
  have H0 : Aside (∃ (rest : List UInt8) (pre : List (List UInt8)) (fuel : Nat), Boxed W Bs 9 (.string ⟨rest.toArray⟩) ∧ J (pre.map fun l => ⟨l.toArray⟩) W ∧ pre ++ wordsF fuel rest = wordsF (s.size + 1) s.data.toList ∧ rest.length < fuel ∧ pre.length + rest.length ≤ s.size) :=
    ⟨s.data.toList, [], s.size + 1, hBs, h0, rfl, by rw [← Lib.size_eq]; omega, by rw [← Lib.size_eq]; simp⟩
  have HJ : Aside (∀ (pre : List ByteArray) (A A' : World), J pre A → Below A.heap.size A A' → J pre A') := hJ
  have HS : Aside (∀ (pre : List ByteArray) (A : World) (v : Value), J pre A → J pre (A.setCell ⟨Bs, 0, none⟩ v)) := hS
  have HY : Aside (∀ (pre : List ByteArray) (x : ByteArray × ByteArray) (W : World), J pre W → Boxed W Bs 9 (.string x.1) → x.2.size ≤ s.size → pre.length < s.size → YieldAt Fence.wide (n - 1) Tryz.prog l #[.string x.2] W fun e W' => e = .returned (.bool true) ∧ J (pre ++ [x.2]) W' ∧ Boxed W' Bs 9 (.string x.1)) := hY
  clear hJ hS hY hBs h0
  gi_wp2
  gi_loopw [] (fun wr => Aside (∃ (rest : List UInt8) (pre : List (List UInt8)) (fuel : Nat), Boxed wr Bs 9 (.string ⟨rest.toArray⟩) ∧ J (pre.map fun l => ⟨l.toArray⟩) wr ∧ pre ++ wordsF fuel rest = wordsF (s.size + 1) s.data.toList ∧ rest.length < fuel ∧ pre.length + rest.length ≤ s.size)) (fun wr => boxLen Bs wr)
  case atStart => exact H0
  case round =>
    clear H0
    obtain ⟨rest, pre, fuel, hb, hJp, hE, hf, hr⟩ := hrel
    obtain ⟨fu, rfl⟩ : ∃ fu, fuel = fu + 1 := ⟨fuel - 1, by omega⟩
    obtain ⟨t, ht⟩ : ∃ t, Lib.trimLeftS rest [32, 9, 10, 13] = t := ⟨_, rfl⟩
    obtain ⟨m, hm⟩ : ∃ m, wordEnd t = m := ⟨_, rfl⟩
    have htl := trimLeft_le rest [32, 9, 10, 13]
    have hml := wordEnd_le t
    rw [ht] at htl
    rw [hm] at hml
    have T1 : ∀ w, Calls Tryz.prog 125 #[.string ⟨rest.toArray⟩, .string ⟨#[32, 9, 10, 13]⟩] w fun e w' => e = .returned (.string ⟨t.toArray⟩) ∧ Below w.heap.size w w' := fun w => by
      have c := Any.strings_TrimLeft_laid Tryz.lays161 (by kernel_rfl) ⟨rest.toArray⟩ ⟨#[32, 9, 10, 13]⟩ w (by decide) (ascii_of_all (by decide))
      rw [show (⟨rest.toArray⟩ : ByteArray).data.toList = rest by simp] at c
      rw [show Lib.trimLeftS rest (⟨#[32, 9, 10, 13]⟩ : ByteArray).data.toList = t from ht] at c
      exact c
    have hcell := hb.cell
    have hfro := hb.frozen
    have HB : Aside (Boxed wr Bs 9 (.string ⟨rest.toArray⟩)) := hb
    have HJP : Aside (J (pre.map fun l => ⟨l.toArray⟩) wr) := hJp
    have HE : Aside (pre ++ wordsF (fu + 1) rest = wordsF (s.size + 1) s.data.toList) := hE
    have HT : Aside (Lib.trimLeftS rest [32, 9, 10, 13] = t ∧ wordEnd t = m) := ⟨ht, hm⟩
    clear hb hJp hE ht hm
    gi_wp2_with fail
    refine ⟨trivial, (fun h => absurd h (by decide)), (callsIn_wide.2 (T1 _)).mono ?_⟩
    rintro e w1 ⟨rfl, hb1⟩
    have B1 : Aside (Boxed w1 Bs 9 (.string ⟨rest.toArray⟩) ∧ J (pre.map fun l => ⟨l.toArray⟩) w1) := ⟨Boxed.belowW HB.out hb1, HJ.out _ _ _ HJP.out hb1⟩
    have hcell1 := B1.out.1.cell
    have hfro1 := B1.out.1.frozen
    clear hcell hfro hb1 T1
    gi_wp2_with fail
    have B2 : Aside (Boxed (w1.setCell ⟨Bs, 0, none⟩ (.string ⟨t.toArray⟩)) Bs 9 (.string ⟨t.toArray⟩) ∧ J (pre.map fun l => ⟨l.toArray⟩) (w1.setCell ⟨Bs, 0, none⟩ (.string ⟨t.toArray⟩))) := ⟨Boxed.set _ B1.out.1, HS.out _ _ _ B1.out.2⟩
    clear hcell1 hfro1 B1
    have hmr : m ≤ rest.length := by omega
    have I0 : ∀ w, Calls Tryz.prog 101 #[.string ⟨t.toArray⟩, .string ⟨#[32, 9, 10, 13]⟩] w fun e w' => e = .returned (.int .i64 (Lib.indexAny t [32, 9, 10, 13])) ∧ Below w.heap.size w w' := fun w => by
      have c := ShX.xIndexAny Tryz.lays153 (by kernel_rfl) ⟨t.toArray⟩ ⟨#[32, 9, 10, 13]⟩ w (by simp only [Lib.size_mk]; omega) (by decide) (by decide) (ascii_of_all (by decide))
      rw [show (⟨t.toArray⟩ : ByteArray).data.toList = t by simp] at c
      exact c
    have hia : Lib.indexAny t [32, 9, 10, 13] = -1 ∧ t.length = m ∨ Lib.indexAny t [32, 9, 10, 13] = (m : Int) ∧ m ≤ t.length := by
      have h1 := HT.out.2
      unfold wordEnd at h1
      have h2 := Lib.indexAny_ge [32, 9, 10, 13] t
      split at h1
      · exact .inl ⟨by omega, h1⟩
      · exact .inr ⟨by omega, hml⟩
    rcases hia with ⟨hi1, hlen⟩ | ⟨hi1, hlen⟩
    all_goals
      rw [hi1] at I0
      clear hi1
      refine ⟨trivial, (fun h => absurd h (by decide)), (callsIn_wide.2 (I0 _)).mono ?_⟩
      rintro e w2 ⟨rfl, hb2⟩
      have B3 : Aside (Boxed w2 Bs 9 (.string ⟨t.toArray⟩) ∧ J (pre.map fun l => ⟨l.toArray⟩) w2) := ⟨Boxed.belowW B2.out.1 hb2, HJ.out _ _ _ B2.out.2 hb2⟩
      have hcell3 := B3.out.1.cell
      have hfro3 := B3.out.1.frozen
      clear hb2 I0 B2
      by_cases hm0 : m = 0
      · have hmz : ((m : Int) == 0) = true := by simp [hm0]
        have HE2 : Aside (pre = wordsF (s.size + 1) s.data.toList) := by
          have h := HE.out
          rw [wordsF, HT.out.1, HT.out.2, if_pos hm0, List.append_nil] at h
          exact h
        clear hm0
        gi_wp2
        refine ⟨(fun _ h => (by cases h)), ?_⟩
        gi_wp2
        refine bodyPost_ret (results_none rfl _ _ _) rfl ?_
        exact ⟨⟨_, rfl⟩, by rw [wordsV, ← HE2.out]; exact B3.out.2⟩
      · have hmz : ((m : Int) == 0) = false := by simp [hm0]
        have hmt : (m : Int) ≤ (t.length : Int) := by omega
        obtain ⟨fn, tmps, assign, body, hy, hR⟩ := HY.out (pre.map fun l => ⟨l.toArray⟩) (⟨t.toArray⟩, (⟨t.toArray⟩ : ByteArray).extract 0 m) w2 B3.out.2 B3.out.1 (by simp only [ByteArray.size_extract, Lib.size_mk]; omega) (by rw [List.length_map]; omega)
        dsimp only at hy
        have hmp : 1 ≤ m := by omega
        have HE2 : Aside ((pre ++ [t.take m]) ++ wordsF fu (t.drop m) = wordsF (s.size + 1) s.data.toList) := by
          have h := HE.out
          rw [wordsF, HT.out.1, HT.out.2, if_neg hm0] at h
          rw [List.append_assoc]
          exact h
        clear hm0
        gi_wp2
        refine ⟨(fun h => absurd h (by decide)), hR.mono ?_⟩
        rintro e W3 ⟨rfl, hJ4, hb4⟩
        have B4 : Aside (Boxed W3 Bs 9 (.string ⟨t.toArray⟩) ∧ J ((pre.map fun l => ⟨l.toArray⟩) ++ [(⟨t.toArray⟩ : ByteArray).extract 0 m]) W3) := ⟨hb4, hJ4⟩
        have hcell4 := hb4.cell
        have hfro4 := hb4.frozen
        clear hb4 hJ4 hcell3 hfro3 B3 hy hR
        gi_wp2
        have ev1 := ext_drop t m
        have ev0 : t.length = m → ByteArray.empty = (⟨(t.drop m).toArray⟩ : ByteArray) := fun h => by rw [List.drop_eq_nil_of_le (by omega)]; rfl
        first | rw [ev1] | rw [ev0 hlen]
        have BX := Boxed.set (.string ⟨(t.drop m).toArray⟩) B4.out.1
        refine ⟨⟨t.drop m, pre ++ [t.take m], fu, BX, ?_, HE2.out, by rw [List.length_drop]; omega, by rw [List.length_drop, List.length_append, List.length_singleton]; omega⟩, ?_⟩
        · have h := HS.out _ _ (.string ⟨(t.drop m).toArray⟩) B4.out.2
          rw [ext_take] at h
          simpa using h
        · rw [boxLen_eq BX, boxLen_eq HB.out, Lib.size_mk, Lib.size_mk, List.length_drop]
          omega
end Go.Proofs.Scn
set_option linter.unusedVariables false
set_option linter.unusedSimpArgs false
namespace Go.Proofs.Scn
open Go.RowKit Go.Lib Go.Shelf Go.Proofs.YtolfpgccebdlpaaGreatDoorW.PrintWords
attribute [local go_sem] Oper.semAt_some
theorem words_fn (s : ByteArray) (w : World) :
    Calls Tryz.prog 84 #[.string s] w fun e w' => e = .returned (.func (.func 124) #[] #[.pointer (some ⟨w.heap.size, 0, none⟩)]) ∧ w' = w.alloc (.cells #[.string s] 9) := by
  go_enter Tryz.func84, Tryz.ntmps84
  go_wp2
  go_ret
  exact ⟨rfl, rfl⟩
/-- what the loop's rounds keep and fill: the list's variable, its row; the loop's own record -/
def WJ (n0 : Nat) (w : World) (rec : Loop) (pre : List ByteArray) (W : World) : Prop :=
  (∃ v, Boxed W n0 76 v ∧ W.ownsRow (n0 + 2) 9 1 v pre.length (pre.map Value.string)) ∧ Below n0 w W ∧ W.heap[n0 + 3]? = some (.loop rec) ∧ W.heap[n0 + 2]? = some (.deferred (some []))
theorem WJ.below {n0 : Nat} {w : World} {rec : Loop} {pre : List ByteArray} {A A' : World} (h : WJ n0 w rec pre A) (hb : Below A.heap.size A A') : WJ n0 w rec pre A' := by
  obtain ⟨⟨v, hv, hr⟩, hB, hl, hd⟩ := h
  have hsz : n0 ≤ A.heap.size := Nat.le_of_lt hv.lt
  refine ⟨⟨v, Boxed.belowW hv hb, hr.kept (grown_of_below hb none) ?_⟩, hB.trans (hb.mono hsz), (hb.block _ (Array.getElem?_eq_some_iff.1 hl).1).trans hl, (hb.block _ (Array.getElem?_eq_some_iff.1 hd).1).trans hd⟩
  rcases hr.2 with ⟨rfl, _⟩ | ⟨g, cap, cur, rfl, hg, _⟩
  · exact .inl rfl
  · exact .inr (by simp [Value.ownBlock])
theorem WJ.set {n0 : Nat} {w : World} {rec : Loop} {pre : List ByteArray} {A : World} (h : WJ n0 w rec pre A) (u : Value) : WJ n0 w rec pre (A.setCell ⟨n0 + 1, 0, none⟩ u) := by
  obtain ⟨⟨v, hv, hr⟩, hB, hl, hd⟩ := h
  refine ⟨⟨v, hv.other (by omega) u, hr.kept (grownBy_setCell' A (n0 + 1) u) ?_⟩, hB.setCell (p := ⟨n0 + 1, 0, none⟩) (by simp) u, (Below.heap_setCell _ _ _ _ (by simp)).trans hl, (Below.heap_setCell _ _ _ _ (by simp)).trans hd⟩
  rcases hr.2 with ⟨rfl, _⟩ | ⟨g, cap, cur, rfl, hg, _⟩
  · exact .inl rfl
  · exact .inr (by simp [Value.ownBlock]; omega)
theorem owns_le {W : World} {b b' : Nat} {e size k : Nat} {v : Value} {xs : List Value} (h : W.ownsRow b e size v k xs) (hb : b' ≤ b) : W.ownsRow b' e size v k xs :=
  ⟨h.1, h.2.imp id (fun ⟨g, cap, cur, h1, h2, h3⟩ => ⟨g, cap, cur, h1, Nat.le_trans hb h2, h3⟩)⟩
theorem owns_ne {W : World} {b : Nat} {e size k : Nat} {v : Value} {xs : List Value} (h : W.ownsRow b e size v k xs) {j : Nat} (hj : j < b) : some j ≠ v.ownBlock := by
  rcases h.2 with ⟨rfl, _⟩ | ⟨g, cap, cur, rfl, hg, _⟩
  · simp [Value.ownBlock]
  · simp [Value.ownBlock]; omega
theorem owns_set {W : World} {b : Nat} {e size k : Nat} {v : Value} {xs : List Value} (h : W.ownsRow b e size v k xs) {j : Nat} (hj : j < b) (u : Value) : (W.setCell ⟨j, 0, none⟩ u).ownsRow b e size v k xs :=
  h.kept (grownBy_setCell' W j u) (.inr (owns_ne h hj).symm)
theorem Tryz.infoS : (Tryz.prog.info? 9).map (fun i => (i.zero, i.size, i.bytes)) = some (some (.string ⟨#[]⟩), 1, 16) := by kernel_rfl
/-- an outermost range over a closure, at the wide fence: its record, named -/
theorem range_outer {P : Program} {n : Nat} {g : Operand} {ps : Array Tmp} {assign body : Code} {Q : Exit → Act → World → Prop} {a : Act} {w : World} {gf : Nat} {lb : Array Value}
    (hn : 1 ≤ n) (hg : a.eval g = .func (.func gf) #[] lb) (eg : ∀ args w, (callFunc gf args).run P w = .ok (.enter gf args) w)
    (h : ∀ rec : Loop, rec.state = .ready → rec.pending = none → rec.tmps = a.tmps → rec.params = ps → rec.assign = assign → rec.body = body →
      CallsIn Fence.wide (n - 1) P gf (#[.func (.yield (w.heap.size + 1)) #[] #[]] ++ lb) ((w.alloc (.deferred (some []))).alloc (.loop rec)) (rangePost Fence.wide n P (w.heap.size + 1) Q { a with defers := [{ target := .collected w.heap.size, args := #[] }] ++ a.defers })) :
    (Code.rangeFunc g ps assign body).wpIn Fence.wide n P Q a w := by
  refine wpIn_rangeFunc ?_
  intro fn hfn
  obtain ⟨rec, hrec⟩ : ∃ rec : Loop, rec = { state := .ready, pending := none, fn, tmps := a.tmps, params := ps, assign, body, defers := w.heap.size } := ⟨_, rfl⟩
  have he : (Instr.enterLoop fn a.tmps ps assign body Fence.wide.round).run P w = .ok (w.heap.size + 1, [{ target := .collected w.heap.size, args := #[] }]) ((w.alloc (.deferred (some []))).alloc (.loop rec)) := by
    rw [hrec]
    exact run_enterLoop_outer _ _ _ _ _
  have hh := h rec (by rw [hrec]) (by rw [hrec]) (by rw [hrec]) (by rw [hrec]) (by rw [hrec]) (by rw [hrec])
  obtain ⟨W1, hW1⟩ : ∃ W1, (w.alloc (.deferred (some []))).alloc (.loop rec) = W1 := ⟨_, rfl⟩
  rw [hW1] at he hh
  refine ⟨w.heap.size + 1, [{ target := .collected w.heap.size, args := #[] }], W1, { target := .fn (.func gf) lb, args := #[.func (.yield (w.heap.size + 1)) #[] #[]] }, W1, gf, #[.func (.yield (w.heap.size + 1)) #[] #[]] ++ lb, W1, ?_, ?_, ?_, ?_, ?_, ?_⟩
  · exact he
  · simp only [resolve, hg]
    simp [go_sem]
  · intro _ _
    exact True.intro
  · simp [invoke, go_sem, eg]
  · exact fun _ => hn
  · exact hh
set_option maxRecDepth 100000 in
set_option maxHeartbeats 4000000 in
theorem words_any (s : ByteArray) (w : World) (hs : s.size < 4294967281) :
    Calls Tryz.prog 39 #[.string s] w fun e w' => ∃ v0_ : Value, e = .returned v0_ ∧ Kd.R Kd.string 9 w' w.heap.size (fun _ => True) v0_ (wordsV s) ∧ Below w.heap.size w w' := by
  refine (callsIn_wide (n := 6)).1 ?_
  refine callsIn_of_wp_marks Tryz.func39 rfl trivial ?_ rfl
  simp only [Tryz.ntmps39, List.size_toArray, List.length_cons, List.length_nil, Nat.reduceAdd, Nat.reduceSub, Array.replicate_succ, Array.replicate_zero, List.push_toArray, List.append_toArray, List.nil_append, List.cons_append]
  gi_wp2_with fail
  refine ⟨trivial, (callsIn_wide.2 (words_fn _ _)).mono ?_⟩
  rintro e w' ⟨rfl, rfl⟩
  gi_wp2_with fail
  refine range_outer (by decide) (gf := 124) (lb := #[.pointer (some ⟨w.heap.size + 1, 0, none⟩)]) rfl (enters_of Tryz.func124 (by kernel_rfl) rfl) ?_
  intro rec h1 h2 h3 h4 h5 h6
  have h0 : WJ w.heap.size w rec [] ((((w.alloc (.cells #[.slice none 0 0] 76)).alloc (.cells #[.string s] 9)).alloc (.deferred (some []))).alloc (.loop rec)) := by
    refine ⟨⟨.slice none 0 0, ?_, World.ownsRow_nil _ _ _ _⟩, ?_, ?_, ?_⟩
    · exact (((Boxed.new w 76 (.slice none 0 0)).alloc _).alloc _).alloc _
    · exact (((((Below.refl _ w).alloc (Nat.le_refl _) _).alloc (by simp) _).alloc (by simp; omega) _).alloc (by simp; omega) _)
    · have := World.alloc_heap_new (((w.alloc (.cells #[.slice none 0 0] 76)).alloc (.cells #[.string s] 9)).alloc (.deferred (some []))) (.loop rec)
      simpa only [World.size_alloc] using this
    · have := World.alloc_heap_new ((w.alloc (.cells #[.slice none 0 0] 76)).alloc (.cells #[.string s] 9)) (.deferred (some []))
      refine (Below.heap_alloc _ _ _ (by simp)).trans ?_
      simpa only [World.size_alloc] using this
  have hBs : Boxed ((((w.alloc (.cells #[.slice none 0 0] 76)).alloc (.cells #[.string s] 9)).alloc (.deferred (some []))).alloc (.loop rec)) (w.heap.size + 1) 9 (.string s) := by
    have := Boxed.new (w.alloc (.cells #[.slice none 0 0] 76)) 9 (.string s)
    simp only [World.size_alloc] at this
    exact (this.alloc _).alloc _
  refine (words_iter (6 - 1) _ (w.heap.size + 1) (WJ w.heap.size w rec) s hs (fun pre A A' h hb => h.below hb) (fun pre A v h => h.set v) ?_ _ hBs h0).mono ?_
  · intro pre x W hW hbx hxs hpl
    obtain ⟨⟨v, hv, hr⟩, hB, hl, hd⟩ := hW
    simp only [World.size_alloc]
    refine ⟨rec.fn, _, rec.assign, rec.body, run_yield (r := rec) hl (by rw [h4]; rfl), roundIn_of_wpIn trivial ?_⟩
    rw [h3, h4, h5, h6]
    gi_wp2
    refine ⟨_, run_beginRound hl h1, ?_⟩
    obtain ⟨X, hX⟩ : ∃ X, W.putObj (w.heap.size + 3) (.loop { rec with state := .busy }) = X := ⟨_, rfl⟩
    have hgX : W.grownBy X (some (w.heap.size + 3)) := by rw [← hX]; exact grownBy_putObj' _ _ _
    have hlt : w.heap.size + 3 < W.heap.size := (Array.getElem?_eq_some_iff.1 hl).1
    have hlX : X.heap[w.heap.size + 3]? = some (.loop { rec with state := .busy }) := by rw [← hX]; exact World.putObj_heap_same hlt
    have hdX : X.heap[w.heap.size + 2]? = some (.deferred (some [])) := by rw [← hX]; exact (World.putObj_heap_other (by omega)).trans hd
    have hvX : Boxed X w.heap.size 76 v := hv.kept hgX (by simp)
    have hbX : Boxed X (w.heap.size + 1) 9 (.string x.1) := hbx.kept hgX (by simp)
    have hrX : X.ownsRow (w.heap.size + 2) 9 1 v pre.length (pre.map Value.string) := by rw [← hX]; exact ownsRow_putObj hr _ hl rfl
    have hBX : Below w.heap.size w X := hB.grown hgX hB.size (fun k e => by cases e; omega)
    have hXs : w.heap.size + 3 < X.heap.size := (Array.getElem?_eq_some_iff.1 hlX).1
    have gX : (W.putObj (w.heap.size + 3) (.loop { rec with state := .busy })) = X := hX
    show Code.wpIn _ _ _ _ _ _ (W.putObj (w.heap.size + 3) (.loop { rec with state := .busy }))
    rw [gX]
    have HH : Aside (X.heap[w.heap.size + 3]? = some (.loop { rec with state := .busy }) ∧ X.heap[w.heap.size + 2]? = some (.deferred (some [])) ∧ Boxed X w.heap.size 76 v ∧ Boxed X (w.heap.size + 1) 9 (.string x.1) ∧ X.ownsRow (w.heap.size + 2) 9 1 v pre.length (pre.map Value.string) ∧ Below w.heap.size w X) := ⟨hlX, hdX, hvX, hbX, hrX, hBX⟩
    have hcX := hvX.cell
    have hfX := hvX.frozen
    clear hgX hlt hlX hdX hvX hbX hBX gX hX hv hr hB hl hd hbx h3 h4 h5 h6 hBs h0
    obtain ⟨i0, hi, hz0, hz1, hz2⟩ := info_parts Tryz.infoS
    gi_wp2_with (gi_at_builtin; refine wpListIn_append_own _ rfl _ _ 76 rfl (w.heap.size + 2) 9 i0 (.string ⟨#[]⟩) 1 16 Tryz.underlying76 hi hz0 hz1 hz2 rfl (by decide) _ _ _ rfl (hrX.alloc _) ⟨X.heap.size, 0, none⟩ 1 1 [.string x.2] rfl rfl (cell_one_new _ _ _) (by simp [Value.oneCell']) (by unfold maxLen; omega) (by omega) (by simp; omega) ?_; intro v' w1 hown' hgrow _; obtain ⟨g', cap', rfl⟩ := ownsRow_succ hown'; obtain ⟨hv1, hv2, hr2, hk2, hb2⟩ := HH.out.2.2.1.appended (by decide) (owns_le HH.out.2.2.2.2.1 (by omega)) (by omega) (Nat.le_refl _) (owns_le (b' := w.heap.size) hown' (by omega)) hgrow; have hc1 := hv1.cell; have hf1 := hv1.frozen)
    have hl5 := hk2.same _ _ HH.out.1 rfl
    have hd5 := hk2.same _ _ HH.out.2.1 rfl
    have erec : ({ ({ rec with state := .busy } : Loop) with state := (if (none : Option Code).isNone then .ready else .done), pending := none } : Loop) = rec := by
      cases rec
      simp at h1 h2
      subst h1 h2
      rfl
    have hend := run_endRound (P := Tryz.prog) none hl5
    rw [erec] at hend
    refine ⟨_, _, hend, rfl, ⟨⟨_, hv2.kept (grownBy_putObj' _ _ _) (by simp), ?_⟩, ?_, ?_, ?_⟩, ?_⟩
    · rw [List.length_append, List.map_append]
      exact ownsRow_putObj (owns_set hown' (by omega) _) _ hl5 rfl
    · exact (HH.out.2.2.2.2.2.trans hb2).grown (grownBy_putObj' _ _ _) (HH.out.2.2.2.2.2.trans hb2).size (fun k e => by cases e; omega)
    · exact World.putObj_heap_same (Array.getElem?_eq_some_iff.1 hl5).1
    · exact (World.putObj_heap_other (by omega)).trans hd5
    · exact (((HH.out.2.2.2.1.alloc _).kept hgrow (owns_ne hrX (by omega))).other (by omega) _).kept (grownBy_putObj' _ _ _) (by simp)
  · rintro e W' ⟨⟨v, rfl⟩, ⟨u, hu, hr⟩, hB, hl, hd⟩
    simp only [World.size_alloc]
    refine ⟨none, _, by have := run_endLoop (P := Tryz.prog) hl (by rw [h1]; simp); rw [h2] at this; exact this, ?_⟩
    obtain ⟨Y, hY⟩ : ∃ Y, W'.putObj (w.heap.size + 3) (.loop { rec with state := .exhausted, pending := none }) = Y := ⟨_, rfl⟩
    have hgY : W'.grownBy Y (some (w.heap.size + 3)) := by rw [← hY]; exact grownBy_putObj' _ _ _
    have huY : Boxed Y w.heap.size 76 u := hu.kept hgY (by simp)
    have hrY : Y.ownsRow (w.heap.size + 2) 9 1 u (wordsV s).length ((wordsV s).map Value.string) := by rw [← hY]; exact ownsRow_putObj hr _ hl rfl
    have hBY : Below w.heap.size w Y := hB.grown hgY hB.size (fun k e => by cases e; omega)
    have hdY : Y.heap[w.heap.size + 2]? = some (.deferred (some [])) := by rw [← hY]; exact (World.putObj_heap_other (by omega)).trans hd
    have hH : Aside (Y.ownsRow (w.heap.size + 2) 9 1 u (wordsV s).length ((wordsV s).map Value.string) ∧ Below w.heap.size w Y) := ⟨hrY, hBY⟩
    have hcY := huY.cell
    have hfY := huY.frozen
    show Exit.inBlock 0 _ Exit.normal _ (W'.putObj (w.heap.size + 3) (.loop { rec with state := .exhausted, pending := none }))
    rw [hY]
    clear hgY hrY hBY hY hu hr hB hl hd h3 h4 h5 h6 hBs h0
    gi_wp2
    refine ⟨by simp, .inl ⟨_, _, rfl, run_takeDeferred hdY, ?_⟩⟩
    have hP := ownsRow_putObj (o' := .deferred none) hH.out.1 hdY rfl
    refine ⟨_, results_tmp rfl _ _ _, ?_⟩
    refine ⟨u, rfl, ⟨fun _ _ => True.intro, _, owns_le hP (by omega), Kd.reps_scalar _⟩, hH.out.2.grown (grownBy_putObj' _ _ _) hH.out.2.size (fun k e => by cases e; omega)⟩
end Go.Proofs.Scn
set_option linter.unusedVariables false
set_option linter.unusedSimpArgs false
namespace Go.Proofs.Scn
open Go.RowKit Go.Lib Go.Proofs.YtolfpgccebdlpaaGreatDoorW.PrintWords
def trimV (s : ByteArray) : ByteArray := ⟨(Lib.trimS s.data.toList [32, 9, 10, 13]).toArray⟩
def splitV (s : ByteArray) (c : UInt8) : List ByteArray := (Lib.splitB ⟨#[c]⟩ 0 (Lib.countB s ⟨#[c]⟩) s).map trimV
theorem trim_any (s : ByteArray) (w : World) (hs : s.size < 4294967281) :
    Calls Tryz.prog 91 #[.string s] w fun e w' => e = .returned (.string (trimV s)) ∧ Below w.heap.size w w' := by
  have hcon : ∀ w, Calls Tryz.prog 132 #[.string s, .string ⟨#[32, 9, 10, 13]⟩] w fun e w' => e = .returned (.string (trimV s)) ∧ Below w.heap.size w w' := fun w => Any.strings_Trim_laid Tryz.lays160 (by kernel_rfl) s ⟨#[32, 9, 10, 13]⟩ w (by omega) (by decide) (ascii_of_all (by decide))
  generalize trimV s = r at hcon ⊢
  go_enter Tryz.func91, Tryz.ntmps91
  go_wp2_with (go_at_call 132; refine (hcon _).mono ?_; rintro e w' ⟨rfl, hB⟩)
  go_ret
  exact ⟨rfl, hB⟩
/-- when k pieces are trimmed -/
def spL (l : List ByteArray) (k : Nat) : List ByteArray := (l.take k).map trimV ++ l.drop k
theorem spL_at (l : List ByteArray) (k : Nat) (h : k < l.length) : (spL l k)[k]? = some l[k] := by
  unfold spL
  rw [List.getElem?_append_right (by simp; omega)]
  simp [List.getElem?_drop]
  rw [Nat.min_eq_left (by omega), Nat.sub_self, Nat.add_zero]
  exact List.getElem?_eq_getElem h
theorem spL_succ (l : List ByteArray) (k : Nat) (h : k < l.length) : (spL l k).set k (trimV l[k]) = spL l (k + 1) := by
  unfold spL
  rw [List.set_append_right _ _ (by simp; omega), List.take_succ_eq_append_getElem h, List.map_append, List.append_assoc]
  congr 1
  simp only [List.length_map, List.length_take]
  rw [Nat.min_eq_left (by omega), Nat.sub_self, List.drop_eq_getElem_cons h]
  rfl
def SpAt (l : List ByteArray) (B : Nat) (w wr : World) (k : Nat) : Prop := wr.heap[B]? = some (.cells ((spL l k).map Value.string).toArray 9 (0, 0)) ∧ Below w.heap.size w wr
theorem SpAt.cell {l : List ByteArray} {B k : Nat} {w wr : World} (h : SpAt l B w wr k) (hk : k < l.length) : wr.cell? ⟨B, k, none⟩ = some (.string l[k]) := by
  rw [blk_cell h.1]
  simp [spL_at l k hk]
theorem SpAt.below {l : List ByteArray} {B k : Nat} {w wr w1 : World} (h : SpAt l B w wr k) (hb : Below wr.heap.size wr w1) : SpAt l B w w1 k := ⟨blk_below h.1 hb, below_step h.2 hb⟩
theorem SpAt.put {l : List ByteArray} {B k : Nat} {w wr : World} (h : SpAt l B w wr k) (hB : w.heap.size ≤ B) (hk : k < l.length) : SpAt l B w (wr.setCell ⟨B, k, none⟩ (.string (trimV l[k]))) (k + 1) := by
  refine ⟨blk_put h.1 k _ ?_, h.2.setCell (p := ⟨B, k, none⟩) hB _⟩
  rw [← spL_succ l k hk]
  simp [List.map_set]
theorem split_conv (c : Int) (w : World) : (convert 97 9 (.slice (some ⟨w.heap.size, 0, none⟩) 1 1)).run Tryz.prog (w.alloc (.cells #[.int .u8 c] 5)) = .ok (.string ⟨#[UInt8.ofNat c.toNat]⟩) (w.alloc (.cells #[.int .u8 c] 5)) := by
  have h := run_convert_bytes_arg (P := Tryz.prog) (w.alloc (.cells #[.int .u8 c] 5)) 97 5 Tryz.underlying97 Tryz.underlying5 w.heap.size 0 1 1 [c] rfl (fun i hi => by
    obtain rfl : i = 0 := by omega
    rw [blk_cell (blk_new w _)]
    rfl) 9 Tryz.underlying9
  exact h
theorem pieces_le (sep : ByteArray) : ∀ (k : Nat) (s : ByteArray), ∀ x ∈ Lib.splitB sep 0 k s, x.size ≤ s.size
  | 0, s, x, h => by
    rw [Lib.splitB_zero, List.mem_singleton] at h
    rw [h]
    exact Nat.le_refl _
  | k + 1, s, x, h => by
    unfold Lib.splitB at h
    split at h
    · rw [List.mem_singleton] at h
      rw [h]
      exact Nat.le_refl _
    · rcases List.mem_cons.1 h with h | h
      · rw [h, ByteArray.size_extract]
        omega
      · have := pieces_le sep k _ x h
        rw [ByteArray.size_extract] at this
        omega
set_option maxHeartbeats 2000000 in
set_option maxRecDepth 100000 in
theorem split_any (s : ByteArray) (c : Int) (w : World) (hs : s.size < 4294967281) :
    Calls Tryz.prog 47 #[.string s, .int .u8 c] w fun e w' => ∃ v0_ : Value, e = .returned v0_ ∧ Kd.R Kd.string 9 w' w.heap.size (fun _ => True) v0_ (splitV s (UInt8.ofNat c.toNat)) ∧ Below w.heap.size w w' := by
  have hconv := split_conv c w
  have hle := Lib.countB_le ⟨#[UInt8.ofNat c.toNat]⟩ (Nat.le_refl _) s.size s (Nat.le_refl _)
  have hlen := Lib.splitB_all ⟨#[UInt8.ofNat c.toNat]⟩ (Nat.le_refl _) 0 _ s rfl
  have hS := fun w => ShX.xSplit_one Tryz.laysM146 s (UInt8.ofNat c.toNat) w hs
  obtain ⟨l, hl⟩ : ∃ l, Lib.splitB ⟨#[UInt8.ofNat c.toNat]⟩ 0 (Lib.countB s ⟨#[UInt8.ofNat c.toNat]⟩) s = l := ⟨_, rfl⟩
  have hsz : ∀ (j : Nat) (h : j < l.length), (l[j]'h).size < 4294967281 := fun j h => by
    have := pieces_le ⟨#[UInt8.ofNat c.toNat]⟩ (Lib.countB s ⟨#[UInt8.ofNat c.toNat]⟩) s l[j] (by rw [hl]; exact List.getElem_mem h)
    omega
  unfold splitV
  rw [hl] at hS hlen ⊢
  have hll : l.length ≤ 4294967281 := by omega
  rw [← hlen] at hS
  have hS2 : ∀ w, Calls Tryz.prog 90 #[.string s, .string ⟨#[UInt8.ofNat c.toNat]⟩] w fun e w' => e = .returned (.slice (some ⟨w.heap.size, 0, none⟩) l.length l.length) ∧ w' = w.alloc (.cells (l.map Value.string).toArray 9) := hS
  have HSZ : Aside (∀ (j : Nat) (h : j < l.length), (l[j]'h).size < 4294967281) := hsz
  have H0 : Aside (SpAt l (w.heap.size + 1) w ((w.alloc (.cells #[.int .u8 c] 5)).alloc (.cells (l.map Value.string).toArray 9)) 0) := by
    refine ⟨?_, ((Below.refl _ w).alloc (Nat.le_refl _) _).alloc (by simp) _⟩
    have := blk_new (w.alloc (.cells #[.int .u8 c] 5)) (.cells (l.map Value.string).toArray 9)
    simpa [spL] using this
  clear hlen hl hS hsz hle
  go_enter Tryz.func47, Tryz.ntmps47
  go_wp2_with (go_at_call 90; refine (hS2 _).mono ?_; rintro e w' ⟨rfl, rfl⟩)
  clear hS2 hconv
  go_loopw [15] (fun i wr => ∃ k : Nat, k ≤ l.length ∧ i = .int .i64 k ∧ Aside (SpAt l (w.heap.size + 1) w wr k)) (fun i _ => l.length - (RowKit.intOf i).toNat)
  case atStart => exact ⟨0, Nat.zero_le _, rfl, H0⟩
  case round =>
    clear H0
    obtain ⟨k, hk, rfl, A1⟩ := hrel
    by_cases hlt : k < l.length
    · have hltz : (k : Int) < (l.length : Int) := by omega
      obtain ⟨x, hx⟩ : ∃ x, l[k] = x := ⟨_, rfl⟩
      have hcell : wr.cell? ⟨w.heap.size + 1, k, none⟩ = some (.string x) := by rw [A1.out.cell hlt, hx]
      have hxs : x.size < 4294967281 := by rw [← hx]; exact HSZ.out k hlt
      have HX : Aside (l[k] = x) := hx
      clear hx
      go_wp2_with fail
      refine (trim_any x _ hxs).mono ?_
      rintro e w1 ⟨rfl, hb1⟩
      have A2 : Aside (SpAt l (w.heap.size + 1) w w1 k) := A1.out.below hb1
      have hcell2 := A2.out.cell hlt
      have hfz2 := blk_frozen A2.out.1 k
      clear hb1 hcell A1
      go_wp2
      refine ⟨⟨k + 1, by omega, by go_num, ?_⟩, by simp [RowKit.intOf]; omega⟩
      have h := A2.out.put (by omega) hlt
      rw [HX.out] at h
      exact h
    · obtain rfl : k = l.length := by omega
      have hltz : ¬ ((l.length : Int) < (l.length : Int)) := by omega
      go_wp2
      go_ret
      refine ⟨_, rfl, ⟨fun _ _ => True.intro, (l.map trimV).map Value.string, ⟨?_, .inr ⟨w.heap.size + 1, l.length, _, ?_, by omega, A1.out.1, by simp, by unfold maxLen; omega, ?_, ?_⟩⟩, Kd.reps_scalar _⟩, A1.out.2⟩
      · show _ = (l.map trimV).length * 1
        simp
      · simp
      · show _ = l.length * 1
        simp [spL]
      · show List.take ((l.map trimV).length * 1) _ = _
        simp [spL]
        exact List.take_of_length_le (by simp)
end Go.Proofs.Scn
set_option linter.unusedVariables false
set_option linter.unusedSimpArgs false
namespace Go.Proofs.Scn
open Go.Lib
abbrev bl : List UInt8 := [32, 9, 10, 13]
abbrev isB (c : UInt8) : Bool := bl.contains c
/-! ### Trim -/
def trimL (l : List UInt8) : List UInt8 := Lib.trimS l bl
theorem trimV_data (s : ByteArray) : (trimV s).data.toList = trimL s.data.toList := by simp [trimV, trimL]
theorem dw_cons_yes {p : UInt8 → Bool} {c : UInt8} {l : List UInt8} (h : p c = true) : (c :: l).dropWhile p = l.dropWhile p := by simp [List.dropWhile, h]
theorem dw_cons_no {p : UInt8 → Bool} {c : UInt8} {l : List UInt8} (h : p c = false) : (c :: l).dropWhile p = c :: l := by simp [List.dropWhile, h]
theorem dw_nil {p : UInt8 → Bool} : ∀ {l : List UInt8}, l.dropWhile p = [] ↔ ∀ c ∈ l, p c = true
  | [] => by simp
  | c :: t => by
    cases h : p c with
    | true =>
      rw [dw_cons_yes h, dw_nil]
      simp [h]
    | false =>
      rw [dw_cons_no h]
      simp [h]
/-- the blanks at the end are cut off first -/
theorem right_snoc_yes {l : List UInt8} {c : UInt8} (h : isB c = true) : Lib.trimRightS (l ++ [c]) bl = Lib.trimRightS l bl := by
  unfold Lib.trimRightS
  rw [List.reverse_append]
  show (List.dropWhile _ (c :: l.reverse)).reverse = _
  rw [dw_cons_yes h]
theorem right_snoc_no {l : List UInt8} {c : UInt8} (h : isB c = false) : Lib.trimRightS (l ++ [c]) bl = l ++ [c] := by
  unfold Lib.trimRightS
  rw [List.reverse_append]
  show (List.dropWhile _ (c :: l.reverse)).reverse = _
  rw [dw_cons_no h]
  simp
theorem right_cons {l : List UInt8} {c : UInt8} (h : Lib.trimRightS l bl ≠ []) : Lib.trimRightS (c :: l) bl = c :: Lib.trimRightS l bl := by
  unfold Lib.trimRightS at h ⊢
  rw [List.reverse_cons]
  have h2 : (l.reverse.dropWhile fun x => bl.contains x) ≠ [] := fun e => h (by rw [e]; rfl)
  rw [List.dropWhile_append]
  cases hd : (l.reverse.dropWhile fun x => bl.contains x) with
  | nil => exact absurd hd h2
  | cons a t => simp
theorem right_nil {l : List UInt8} (h : ∀ c ∈ l, isB c = true) : Lib.trimRightS l bl = [] := by
  unfold Lib.trimRightS
  rw [List.reverse_eq_nil_iff, dw_nil]
  intro c hc
  exact h c (List.mem_reverse.1 hc)
theorem right_none {l : List UInt8} (h : Lib.trimRightS l bl = []) : ∀ c ∈ l, isB c = true := by
  unfold Lib.trimRightS at h
  rw [List.reverse_eq_nil_iff, dw_nil] at h
  intro c hc
  exact h c (List.mem_reverse.2 hc)
theorem trim_cons {c : UInt8} {l : List UInt8} (h : isB c = true) : trimL (c :: l) = trimL l := by
  unfold trimL Lib.trimS
  by_cases e : Lib.trimRightS l bl = []
  · rw [e, right_nil (l := c :: l)]
    intro x hx
    rcases List.mem_cons.1 hx with rfl | hx
    · exact h
    · exact right_none e x hx
  · rw [right_cons e]
    unfold Lib.trimLeftS
    exact dw_cons_yes h
theorem trim_snoc {c : UInt8} {l : List UInt8} (h : isB c = true) : trimL (l ++ [c]) = trimL l := by
  unfold trimL Lib.trimS
  rw [right_snoc_yes h]
/-- no blank at either end -/
def tidy (l : List UInt8) : Prop := (∀ c, l.head? = some c → isB c = false) ∧ (∀ c, l.getLast? = some c → isB c = false)
theorem trim_tidy {l : List UInt8} (h : tidy l) : trimL l = l := by
  unfold trimL Lib.trimS
  have e : Lib.trimRightS l bl = l := by
    rcases List.eq_nil_or_concat l with rfl | ⟨t, c, rfl⟩
    · rfl
    · rw [List.concat_eq_append] at h ⊢
      exact right_snoc_no (h.2 c (by simp))
  rw [e]
  cases l with
  | nil => rfl
  | cons c t => exact dw_cons_no (h.1 c rfl)
theorem trim_is_tidy (l : List UInt8) : tidy (trimL l) := by
  have hh : ∀ (p : UInt8 → Bool) (l : List UInt8) c, (l.dropWhile p).head? = some c → p c = false := fun p l c hc => by
    have := List.head?_dropWhile_not p l
    rw [hc] at this
    simpa using this
  constructor
  · intro c hc
    exact hh _ _ c hc
  · intro c hc
    have : ∀ (l : List UInt8), (∀ c, l.getLast? = some c → isB c = false) → ∀ c, (Lib.trimLeftS l bl).getLast? = some c → isB c = false := fun l hl c hc => by
      unfold Lib.trimLeftS at hc
      obtain ⟨t, ht⟩ := List.dropWhile_suffix (l := l) (fun x => bl.contains x)
      refine hl c ?_
      rw [← ht, List.getLast?_append, hc]
      rfl
    refine this _ ?_ c hc
    intro c hc
    unfold Lib.trimRightS at hc
    rw [List.getLast?_reverse] at hc
    exact hh _ _ c hc
theorem trim_trim (l : List UInt8) : trimL (trimL l) = trimL l := trim_tidy (trim_is_tidy l)
theorem trim_len (l : List UInt8) : (trimL l).length ≤ l.length := by
  unfold trimL Lib.trimS
  refine Nat.le_trans (trimLeft_le _ _) ?_
  unfold Lib.trimRightS
  rw [List.length_reverse]
  refine Nat.le_trans (List.dropWhile_sublist _).length_le ?_
  simp
/-! ### Strip -/
/-- within a remark (true), or not -/
def scn (inside : Bool) : List UInt8 → List UInt8
  | [] => []
  | c :: t => match inside with
    | false => if c = 47 ∧ t.head? = some 42 then 32 :: scn true t.tail else c :: scn false t
    | true => if c = 42 ∧ t.head? = some 47 then scn false t.tail else scn true t
termination_by l => l.length
decreasing_by all_goals (simp; try omega)
theorem scn_nil (b : Bool) : scn b [] = [] := by rw [scn]
theorem scn_open {t : List UInt8} : scn false (47 :: 42 :: t) = 32 :: scn true t := by rw [scn]; simp
theorem scn_go {c : UInt8} {t : List UInt8} (h : ¬ (c = 47 ∧ t.head? = some 42)) : scn false (c :: t) = c :: scn false t := by rw [scn]; simp [h]
theorem scn_shut {t : List UInt8} : scn true (42 :: 47 :: t) = scn false t := by rw [scn]; simp
theorem scn_in {c : UInt8} {t : List UInt8} (h : ¬ (c = 42 ∧ t.head? = some 47)) : scn true (c :: t) = scn true t := by rw [scn]; simp [h]
theorem two_head {c d : UInt8} {t : List UInt8} (a b : UInt8) (h : c = a ∧ t.head? = some b) : ∃ u, c :: t = a :: b :: u := by
  obtain ⟨rfl, h2⟩ := h
  cases t with
  | nil => cases h2
  | cons x u =>
    simp at h2
    subst h2
    exact ⟨u, rfl⟩
theorem cut_nil (a b : UInt8) : Lib.cut [] [a, b] = ([], [], false) := by simp [Lib.cut, Lib.index]
theorem cut_here (a b : UInt8) (t : List UInt8) : Lib.cut (a :: b :: t) [a, b] = ([], t, true) := by
  unfold Lib.cut
  have : Lib.index (a :: b :: t) [a, b] = 0 := by simp [Lib.index, List.isPrefixOf]
  rw [this]
  simp
theorem cut_later {a b c : UInt8} {t : List UInt8} (h : ¬ (c = a ∧ t.head? = some b)) : Lib.cut (c :: t) [a, b] = (if (Lib.cut t [a, b]).2.2 = true then (c :: (Lib.cut t [a, b]).1, (Lib.cut t [a, b]).2.1, true) else (c :: t, [], false)) := by
  have hp : ([a, b] : List UInt8).isPrefixOf (c :: t) = false := by
    cases hq : ([a, b] : List UInt8).isPrefixOf (c :: t)
    · rfl
    · exfalso
      apply h
      cases t with
      | nil => simp [List.isPrefixOf] at hq
      | cons d u =>
        simp [List.isPrefixOf] at hq
        exact ⟨hq.1.symm, by simp [hq.2]⟩
  have hi : Lib.index (c :: t) [a, b] = if Lib.index t [a, b] == -1 then -1 else Lib.index t [a, b] + 1 := by
    rw [Lib.index, hp]
    rfl
  have hg := Lib.index_ge t [a, b]
  unfold Lib.cut
  rw [hi]
  by_cases e : Lib.index t [a, b] = -1
  · rw [e]
    simp
  · have e2 : (Lib.index t [a, b] == -1) = false := by simpa using e
    rw [e2]
    have h0 : 0 ≤ Lib.index t [a, b] := by omega
    simp only [Bool.false_eq_true, if_false]
    rw [if_pos (by omega), if_pos h0, if_pos rfl]
    have e3 : (Lib.index t [a, b] + 1).toNat = (Lib.index t [a, b]).toNat + 1 := by omega
    rw [e3]
    simp only [List.take_succ_cons]
    rw [show (Lib.index t [a, b]).toNat + 1 + [a, b].length = ((Lib.index t [a, b]).toNat + [a, b].length) + 1 by omega, List.drop_succ_cons]
theorem strip_scn : ∀ (n : Nat) (l : List UInt8), l.length ≤ n → (∀ k, l.length < k → stripF k l = scn false l) ∧ (∀ k, l.length < k → stripF k (Lib.cut l [42, 47]).2.1 = scn true l)
  | n, [], _ => by
    constructor
    · intro k hk
      obtain ⟨k, rfl⟩ : ∃ m, k = m + 1 := ⟨k - 1, by simp at hk; omega⟩
      rw [stripF, cut_nil, scn_nil]
      simp
    · intro k hk
      obtain ⟨k, rfl⟩ : ∃ m, k = m + 1 := ⟨k - 1, by simp at hk; omega⟩
      rw [cut_nil, stripF, cut_nil, scn_nil]
      simp
  | 0, _ :: _, h => by simp at h
  | n + 1, c :: t, h => by
    have ih := strip_scn n
    constructor
    · intro k hk
      obtain ⟨k, rfl⟩ : ∃ m, k = m + 1 := ⟨k - 1, by simp at hk; omega⟩
      by_cases e : c = 47 ∧ t.head? = some 42
      · obtain ⟨u, hu⟩ := two_head (d := 0) 47 42 e
        rw [hu] at h hk ⊢
        rw [stripF, cut_here, if_pos rfl, scn_open]
        simp only [List.length_cons] at h hk
        rw [(ih u (by omega)).2 k (by omega)]
        rfl
      · simp only [List.length_cons] at h hk
        have h1 := (ih t (by omega)).1 (k + 1) (by omega)
        rw [stripF] at h1
        rw [stripF, cut_later e, scn_go e, ← h1]
        by_cases f : (Lib.cut t [47, 42]).2.2 = true
        · rw [if_pos f, if_pos rfl, if_pos f]
          rfl
        · rw [if_neg f, if_neg f, if_neg (by simp), cut_no (by simpa using f)]
    · intro k hk
      by_cases e : c = 42 ∧ t.head? = some 47
      · obtain ⟨u, hu⟩ := two_head (d := 0) 42 47 e
        rw [hu] at h hk ⊢
        rw [cut_here, scn_shut]
        simp only [List.length_cons] at h hk
        exact (ih u (by omega)).1 k (by omega)
      · simp only [List.length_cons] at h hk
        have h1 := (ih t (by omega)).2 k (by omega)
        rw [cut_later e, scn_in e, ← h1]
        by_cases f : (Lib.cut t [42, 47]).2.2 = true
        · rw [if_pos f]
        · rw [if_neg f]
          have : (Lib.cut t [42, 47]).2.1 = [] := by
            unfold Lib.cut at f ⊢
            split at f
            · simp at f
            · rename_i g; rw [if_neg g]
          rw [this]
theorem stripV_data (s : ByteArray) : (stripV s).data.toList = scn false s.data.toList := by
  have := (strip_scn s.data.toList.length s.data.toList (Nat.le_refl _)).1 (s.size + 1) (by rw [← Lib.size_eq]; omega)
  simp [stripV, this]
theorem scn_len : ∀ (n : Nat) (b : Bool) (l : List UInt8), l.length ≤ n → (scn b l).length ≤ l.length
  | n, b, [], _ => by rw [scn_nil]; exact Nat.le_refl _
  | 0, _, _ :: _, h => by simp at h
  | n + 1, false, c :: t, h => by
    simp only [List.length_cons] at h
    by_cases e : c = 47 ∧ t.head? = some 42
    · obtain ⟨u, hu⟩ := two_head (d := 0) 47 42 e
      have hl : (c :: t).length = u.length + 2 := by rw [hu]; rfl
      rw [hu, scn_open]
      have := scn_len n true u (by simp at hl; omega)
      simp; omega
    · rw [scn_go e]
      have := scn_len n false t (by omega)
      simp; omega
  | n + 1, true, c :: t, h => by
    simp only [List.length_cons] at h
    by_cases e : c = 42 ∧ t.head? = some 47
    · obtain ⟨u, hu⟩ := two_head (d := 0) 42 47 e
      have hl : (c :: t).length = u.length + 2 := by rw [hu]; rfl
      rw [hu, scn_shut]
      have := scn_len n false u (by simp at hl; omega)
      simp; omega
    · rw [scn_in e]
      have := scn_len n true t (by omega)
      simp; omega
/-! ### Lower -/
theorem lowV_data (s : ByteArray) : (lowV s).data.toList = s.data.toList.map lowB := by simp [lowV]
theorem ba_ext {s t : ByteArray} (h : s.data.toList = t.data.toList) : s = t := by
  cases s; cases t
  simp at h
  rw [h]
end Go.Proofs.Scn
set_option linter.unusedVariables false
set_option linter.unusedSimpArgs false
namespace Go.Proofs.Scn
open Go.Lib
/-! ### one byte looked for -/
theorem idx_spec (c : UInt8) : ∀ l : List UInt8, (Lib.index l [c] = -1 ∧ c ∉ l) ∨ ∃ p t, l = p ++ c :: t ∧ c ∉ p ∧ Lib.index l [c] = (p.length : Int)
  | [] => by left; simp [Lib.index]
  | b :: l => by
    by_cases h : c = b
    · subst h
      right
      exact ⟨[], l, rfl, by simp, by simp [Lib.index, List.isPrefixOf]⟩
    · have hp : ([c] : List UInt8).isPrefixOf (b :: l) = false := by simp [List.isPrefixOf, h]
      rcases idx_spec c l with ⟨h1, h2⟩ | ⟨p, t, h1, h2, h3⟩
      · left
        refine ⟨by simp [Lib.index, hp, h1], ?_⟩
        simp [h, h2]
      · right
        refine ⟨b :: p, t, by rw [h1]; rfl, by simp [h, h2], ?_⟩
        have hn : ((p.length : Int) == -1) = false := by rw [beq_eq_false_iff_ne]; omega
        simp [Lib.index, hp, h3, hn]
theorem cut_spec (c : UInt8) (l : List UInt8) : (Lib.cut l [c] = (l, [], false) ∧ c ∉ l) ∨ ∃ p t, l = p ++ c :: t ∧ c ∉ p ∧ Lib.cut l [c] = (p, t, true) := by
  rcases idx_spec c l with ⟨h1, h2⟩ | ⟨p, t, h1, h2, h3⟩
  · left
    refine ⟨?_, h2⟩
    unfold Lib.cut
    rw [h1, if_neg (by decide)]
  · right
    refine ⟨p, t, h1, h2, ?_⟩
    unfold Lib.cut
    rw [h3, if_pos (by omega), h1]
    simp
theorem any_spec (cs : List UInt8) : ∀ l : List UInt8, (Lib.indexAny l cs = -1 ∧ ∀ c ∈ l, cs.contains c = false) ∨ ∃ p b t, l = p ++ b :: t ∧ (∀ c ∈ p, cs.contains c = false) ∧ cs.contains b = true ∧ Lib.indexAny l cs = (p.length : Int)
  | [] => by left; simp [Lib.indexAny]
  | b :: l => by
    cases h : cs.contains b with
    | true =>
      right
      refine ⟨[], b, l, rfl, by simp, h, ?_⟩
      unfold Lib.indexAny
      rw [if_pos h]
      rfl
    | false =>
      have e : Lib.indexAny (b :: l) cs = if Lib.indexAny l cs == -1 then -1 else Lib.indexAny l cs + 1 := by
        rw [Lib.indexAny, h]
        simp
      rcases any_spec cs l with ⟨h1, h2⟩ | ⟨p, d, t, h1, h2, h3, h4⟩
      · left
        refine ⟨by rw [e, h1]; rfl, ?_⟩
        intro c hc
        rcases List.mem_cons.1 hc with rfl | hc
        · exact h
        · exact h2 c hc
      · right
        refine ⟨b :: p, d, t, by rw [h1]; rfl, ?_, h3, ?_⟩
        · intro c hc
          rcases List.mem_cons.1 hc with rfl | hc
          · exact h
          · exact h2 c hc
        · have hn : ((p.length : Int) == -1) = false := by rw [beq_eq_false_iff_ne]; omega
          rw [e, h4, hn]
          simp
/-! ### splitting at a byte -/
def spl (c : UInt8) : List UInt8 → List (List UInt8)
  | [] => [[]]
  | x :: t => if x = c then [] :: spl c t else match spl c t with
    | [] => [[x]]
    | h :: r => (x :: h) :: r
theorem spl_hit {c : UInt8} {t : List UInt8} : spl c (c :: t) = [] :: spl c t := by simp [spl]
theorem spl_step {c x : UInt8} {t : List UInt8} {h : List UInt8} {r : List (List UInt8)} (hx : x ≠ c) (ht : spl c t = h :: r) : spl c (x :: t) = (x :: h) :: r := by simp [spl, hx, ht]
theorem spl_ne (c : UInt8) : ∀ l : List UInt8, ∃ h r, spl c l = h :: r
  | [] => ⟨[], [], rfl⟩
  | x :: t => by
    obtain ⟨h, r, e⟩ := spl_ne c t
    by_cases hx : x = c
    · subst hx
      exact ⟨_, _, spl_hit⟩
    · exact ⟨_, _, spl_step hx e⟩
theorem spl_none {c : UInt8} : ∀ {l : List UInt8}, c ∉ l → spl c l = [l]
  | [], _ => rfl
  | x :: t, h => by
    simp at h
    exact spl_step (fun e => h.1 e.symm) (spl_none h.2)
theorem spl_cut {c : UInt8} {t : List UInt8} : ∀ {p : List UInt8}, c ∉ p → spl c (p ++ c :: t) = p :: spl c t
  | [], _ => spl_hit
  | x :: p, h => by
    simp at h
    exact spl_step (fun e => h.1 e.symm) (spl_cut h.2)
theorem spl_app (c : UInt8) (t : List UInt8) : ∀ p : List UInt8, spl c (p ++ c :: t) = spl c p ++ spl c t
  | [] => spl_hit
  | x :: p => by
    by_cases hx : x = c
    · subst hx
      rw [spl_hit, List.cons_append, spl_hit, spl_app]
      rfl
    · obtain ⟨h, r, e⟩ := spl_ne c p
      have e2 := spl_app c t p
      rw [e] at e2
      rw [spl_step hx e]
      exact spl_step hx e2
theorem spl_snoc {c b : UInt8} (hb : b ≠ c) : ∀ p : List UInt8, ∃ xs y, spl c p = xs ++ [y] ∧ spl c (p ++ [b]) = xs ++ [y ++ [b]]
  | [] => ⟨[], [], rfl, by simp [spl, hb]⟩
  | x :: p => by
    obtain ⟨xs, y, e1, e2⟩ := spl_snoc hb p
    by_cases hx : x = c
    · subst hx
      exact ⟨[] :: xs, y, by rw [spl_hit, e1]; rfl, by rw [List.cons_append, spl_hit, e2]; rfl⟩
    · cases xs with
      | nil => exact ⟨[], x :: y, spl_step hx e1, spl_step hx e2⟩
      | cons h r => exact ⟨(x :: h) :: r, y, spl_step hx e1, spl_step hx e2⟩
theorem splitK_spl (c : UInt8) : ∀ (n : Nat) (l : List UInt8), l.length < n → Lib.splitK [c] 0 (Lib.countFrom [c] n l) l = spl c l
  | 0, l, h => by omega
  | n + 1, l, h => by
    rcases idx_spec c l with ⟨h1, h2⟩ | ⟨p, t, h1, h2, h3⟩
    · rw [Lib.countFrom, h1, spl_none h2]
      rfl
    · have hn : ((p.length : Int) == -1) = false := by rw [beq_eq_false_iff_ne]; omega
      have hd : l.drop (p.length + 1) = t := by rw [h1]; simp
      have ht : l.take p.length = p := by rw [h1]; simp
      have hl : t.length < n := by rw [h1] at h; simp at h; omega
      rw [Lib.countFrom, h3, hn, if_neg (by decide), Nat.add_comm 1, Lib.splitK, h3, hn, if_neg (by decide)]
      show l.take (p.length + 0) :: Lib.splitK [c] 0 (Lib.countFrom [c] n (l.drop (p.length + 1))) (l.drop (p.length + 1)) = _
      rw [hd, Nat.add_zero, ht, splitK_spl c n t hl, h1, spl_cut h2]
def ba (l : List UInt8) : ByteArray := ⟨l.toArray⟩
theorem ba_data (l : List UInt8) : (ba l).data.toList = l := by simp [ba]
theorem data_ba (s : ByteArray) : ba s.data.toList = s := by simp [ba]
theorem trimV_ba (s : ByteArray) : trimV s = ba (trimL s.data.toList) := rfl
theorem splitV_eq (s : ByteArray) (c : UInt8) : splitV s c = (spl c s.data.toList).map fun l => ba (trimL l) := by
  have e := Lib.splitB_data ⟨#[c]⟩ 0 (Lib.countB s ⟨#[c]⟩) s
  have e2 : Lib.splitK [c] 0 (Lib.countB s ⟨#[c]⟩) s.data.toList = spl c s.data.toList := splitK_spl c _ _ (Nat.lt_succ_self _)
  unfold splitV
  rw [← e2]
  rw [show ([c] : List UInt8) = (⟨#[c]⟩ : ByteArray).data.toList from rfl, ← e, List.map_map]
  rfl
/-! ### words -/
def wg : List UInt8 → List UInt8 → List (List UInt8)
  | cur, [] => if cur = [] then [] else [cur]
  | cur, c :: t => if isB c = true then (if cur = [] then wg [] t else cur :: wg [] t) else wg (cur ++ [c]) t
theorem wg_blank {c : UInt8} {t : List UInt8} (h : isB c = true) : wg [] (c :: t) = wg [] t := by rw [wg, if_pos h, if_pos rfl]
theorem wg_shut {c : UInt8} {cur t : List UInt8} (h : isB c = true) (hc : cur ≠ []) : wg cur (c :: t) = cur :: wg [] t := by rw [wg, if_pos h, if_neg hc]
theorem wg_go {c : UInt8} {cur t : List UInt8} (h : isB c = false) : wg cur (c :: t) = wg (cur ++ [c]) t := by rw [wg, h]; rfl
theorem wg_word {t : List UInt8} : ∀ {p cur : List UInt8}, (∀ c ∈ p, isB c = false) → wg cur (p ++ t) = wg (cur ++ p) t
  | [], cur, _ => by simp
  | c :: p, cur, h => by
    rw [List.cons_append, wg_go (h c (by simp)), wg_word fun d hd => h d (by simp [hd])]
    simp
theorem wg_trimLeft : ∀ l : List UInt8, wg [] (Lib.trimLeftS l bl) = wg [] l
  | [] => rfl
  | c :: t => by
    have ih := wg_trimLeft t
    unfold Lib.trimLeftS at ih ⊢
    cases h : isB c with
    | true => rw [dw_cons_yes h, wg_blank h, ih]
    | false => rw [dw_cons_no h]
theorem trimLeft_head {l : List UInt8} {c : UInt8} {t : List UInt8} (h : Lib.trimLeftS l bl = c :: t) : isB c = false := by
  induction l with
  | nil => cases h
  | cons d u ih =>
    unfold Lib.trimLeftS at h ih
    cases hd : isB d with
    | true => rw [dw_cons_yes hd] at h; exact ih h
    | false =>
      rw [dw_cons_no hd] at h
      cases h
      exact hd
theorem wordsF_nil : ∀ k, wordsF k [] = []
  | 0 => rfl
  | k + 1 => rfl
theorem wordsF_wg : ∀ (k : Nat) (l : List UInt8), l.length < k → wordsF k l = wg [] l
  | 0, l, h => by omega
  | k + 1, l, h => by
    have hl := trimLeft_le l bl
    rw [wordsF, ← wg_trimLeft l]
    generalize ht : Lib.trimLeftS l bl = t at hl
    rcases any_spec bl t with ⟨h1, h2⟩ | ⟨p, b, u, h1, h2, h3, h4⟩
    · have e : wordEnd t = t.length := by unfold wordEnd; rw [h1]; rfl
      rw [e]
      by_cases h0 : t.length = 0
      · rw [if_pos h0, List.length_eq_zero_iff.1 h0]; rfl
      · rw [if_neg h0, List.take_length, List.drop_length, wordsF_nil]
        have := wg_word (t := []) (p := t) (cur := []) h2
        rw [List.append_nil, List.nil_append] at this
        rw [this, wg, if_neg (fun e => h0 (by rw [e]; rfl))]
    · have e : wordEnd t = p.length := by unfold wordEnd; rw [h4, if_neg (by omega)]; rfl
      have hp : p ≠ [] := by
        intro hp
        subst hp
        have := trimLeft_head (l := l) (ht.trans h1)
        exact absurd (this.symm.trans h3) (by decide)
      have hp0 : p.length ≠ 0 := fun e => hp (List.length_eq_zero_iff.1 e)
      have hlen : (b :: u).length < k := by rw [h1] at hl; simp at hl ⊢; omega
      rw [e, if_neg hp0, h1]
      simp only [List.take_left, List.drop_left]
      rw [wordsF_wg k _ hlen, wg_blank h3, wg_word h2, List.nil_append, wg_shut h3 hp]
theorem wordsV_eq (s : ByteArray) : wordsV s = (wg [] s.data.toList).map ba := by
  unfold wordsV
  rw [wordsF_wg _ _ (by rw [← Lib.size_eq]; exact Nat.lt_succ_self _)]
  rfl
/-! ### blocks -/
def bgo : Option (List UInt8) → List UInt8 → List UInt8 → List (List UInt8 × List UInt8)
  | _, _, [] => []
  | none, cur, c :: t => if c = 123 then bgo (some cur) [] t else if c = 125 then bgo none [] t else bgo none (cur ++ [c]) t
  | some h, cur, c :: t => if c = 125 then (h, cur) :: bgo none [] t else bgo (some h) (cur ++ [c]) t
theorem bgo_nil (o : Option (List UInt8)) (cur : List UInt8) : bgo o cur [] = [] := by cases o <;> rfl
theorem bgo_open {cur t : List UInt8} : bgo none cur (123 :: t) = bgo (some cur) [] t := by simp [bgo]
theorem bgo_reset {cur t : List UInt8} : bgo none cur (125 :: t) = bgo none [] t := by simp [bgo]
theorem bgo_shut {h cur t : List UInt8} : bgo (some h) cur (125 :: t) = (h, cur) :: bgo none [] t := by simp [bgo]
theorem bgo_none {c : UInt8} {cur t : List UInt8} (h1 : c ≠ 123) (h2 : c ≠ 125) : bgo none cur (c :: t) = bgo none (cur ++ [c]) t := by simp [bgo, h1, h2]
theorem bgo_some {c : UInt8} {h cur t : List UInt8} (h2 : c ≠ 125) : bgo (some h) cur (c :: t) = bgo (some h) (cur ++ [c]) t := by simp [bgo, h2]
theorem bgo_none_app {t : List UInt8} : ∀ {p cur : List UInt8}, (∀ c ∈ p, c ≠ 123 ∧ c ≠ 125) → bgo none cur (p ++ t) = bgo none (cur ++ p) t
  | [], cur, _ => by simp
  | c :: p, cur, h => by
    rw [List.cons_append, bgo_none (h c (by simp)).1 (h c (by simp)).2, bgo_none_app fun d hd => h d (by simp [hd])]
    simp
theorem bgo_some_app {hd t : List UInt8} : ∀ {p cur : List UInt8}, (∀ c ∈ p, c ≠ 125) → bgo (some hd) cur (p ++ t) = bgo (some hd) (cur ++ p) t
  | [], cur, _ => by simp
  | c :: p, cur, h => by
    rw [List.cons_append, bgo_some (h c (by simp)), bgo_some_app fun d hd => h d (by simp [hd])]
    simp
end Go.Proofs.Scn
set_option linter.unusedVariables false
set_option linter.unusedSimpArgs false
namespace Go.Proofs.Val
open Go
def isDig (c : UInt8) : Bool := decide (48 ≤ c.toNat) && decide (c.toNat ≤ 57)
theorem isDig_iff {c : UInt8} : isDig c = true ↔ 48 ≤ c.toNat ∧ c.toNat ≤ 57 := by simp [isDig]
theorem u8_all {P : UInt8 → Prop} (h : ∀ n : Fin 256, P (UInt8.ofNat n.val)) (c : UInt8) : P c := by
  have := h ⟨c.toNat, c.toNat_lt⟩
  simpa using this
theorem dig_contains (c : UInt8) : ([48, 49, 50, 51, 52, 53, 54, 55, 56, 57] : List UInt8).contains c = isDig c :=
  u8_all (P := fun c => ([48, 49, 50, 51, 52, 53, 54, 55, 56, 57] : List UInt8).contains c = isDig c) (by decide +kernel) c
theorem dropWhile_nil {p : UInt8 → Bool} : ∀ {l : List UInt8}, l.dropWhile p = [] ↔ l.all p = true
  | [] => by simp
  | c :: l => by
    by_cases h : p c = true
    · simp [List.dropWhile, h, dropWhile_nil (l := l)]
    · simp [List.dropWhile, h]
theorem dropWhile_sub {p : UInt8 → Bool} (l : List UInt8) : (l.dropWhile p).all p = true → l.all p = true := fun h => by
  have h2 : (l.dropWhile p).dropWhile p = [] := dropWhile_nil.2 h
  by_cases e : l.dropWhile p = []
  · exact dropWhile_nil.1 e
  · obtain ⟨c, r, hr⟩ := List.exists_cons_of_ne_nil e
    have hc : p c = false := by
      have := List.head_dropWhile_not p (l := l) (by rw [hr]; simp)
      simpa [hr] using this
    rw [hr] at h
    simp [hc] at h
theorem trim_dig_nil (l : List UInt8) : Lib.trimS l [48, 49, 50, 51, 52, 53, 54, 55, 56, 57] = [] ↔ l.all isDig = true := by
  have e : ∀ l : List UInt8, l.dropWhile (([48, 49, 50, 51, 52, 53, 54, 55, 56, 57] : List UInt8).contains ·) = l.dropWhile isDig := fun l => by
    congr 1; funext c; exact dig_contains c
  unfold Lib.trimS Lib.trimLeftS Lib.trimRightS
  rw [e, e, dropWhile_nil, List.all_reverse]
  constructor
  · intro h
    have := dropWhile_sub _ h
    rwa [List.all_reverse] at this
  · intro h
    have : l.reverse.dropWhile isDig = [] := dropWhile_nil.2 (by rw [List.all_reverse]; exact h)
    rw [this]; rfl
/-- what digits spell behind others that spell acc -/
def decV (acc : Nat) (l : List UInt8) : Nat := l.foldl (fun a c => a * 10 + (c.toNat - 48)) acc
theorem decV_nil (a : Nat) : decV a [] = a := rfl
theorem decV_cons (a : Nat) (c : UInt8) (l : List UInt8) : decV a (c :: l) = decV (a * 10 + (c.toNat - 48)) l := by unfold decV; rw [List.foldl_cons]
theorem decV_append (a : Nat) (l m : List UInt8) : decV a (l ++ m) = decV (decV a l) m := List.foldl_append
theorem decV_lt : ∀ (l : List UInt8) (a k : Nat), l.all isDig = true → a < 10 ^ k → decV a l < 10 ^ (k + l.length)
  | [], a, k, _, h => by simpa [decV] using h
  | c :: l, a, k, hd, h => by
    simp only [List.all_cons, Bool.and_eq_true, isDig_iff] at hd
    rw [decV_cons]
    have := decV_lt l (a * 10 + (c.toNat - 48)) (k + 1) hd.2 (by rw [Nat.pow_succ]; omega)
    rw [List.length_cons, show k + (l.length + 1) = k + 1 + l.length by omega]
    exact this
theorem parseM_dig (M : Nat) (hM : 1000000000000000000 ≤ M) (l : List UInt8) : ∀ (a k : Nat), l.all isDig = true → a < 10 ^ k → k + l.length ≤ 18 → Lib.parseUintM M a l = .ok (decV a l) := by
  induction l with
  | nil => intro a k _ _ _; rfl
  | cons c l ih =>
    intro a k hd h hk
    simp only [List.all_cons, Bool.and_eq_true, isDig_iff] at hd
    rw [List.length_cons] at hk
    have hp : 10 ^ k ≤ 10 ^ 17 := Nat.pow_le_pow_right (by omega) (by omega)
    generalize h17 : 10 ^ 17 = T at hp
    have hT : T = 100000000000000000 := h17.symm
    have ih := ih (a * 10 + (c.toNat - 48)) (k + 1) hd.2 (by rw [Nat.pow_succ]; omega) (by omega)
    have hc := hd.1
    clear hd h17
    rw [Lib.parseUintM, if_pos hc, if_neg (by omega), if_neg (by omega), ih, decV_cons]
theorem parse_dig {l : List UInt8} (hd : l.all isDig = true) (hn : l ≠ []) (hl : l.length ≤ 18) : Lib.parseIntB 64 l = .ok (decV 0 l : Int) := by
  obtain ⟨c, r, rfl⟩ := List.exists_cons_of_ne_nil hn
  have hc := hd
  simp only [List.all_cons, Bool.and_eq_true, isDig_iff] at hc
  have hm := parseM_dig (2 ^ 64 - 1) (by decide) (c :: r) 0 0 hd (by simp) (by omega)
  have hv := decV_lt (c :: r) 0 0 hd (by simp)
  have hp : 10 ^ (0 + (c :: r).length) ≤ 1000000000000000000 := Nat.le_trans (Nat.pow_le_pow_right (by omega) (by omega : 0 + (c :: r).length ≤ 18)) (Nat.le_of_eq (by rfl))
  have h63 : (2 : Nat) ^ (64 - 1) = 9223372036854775808 := by decide
  rw [Lib.parseIntB_plain 64 c r (by omega) (by omega), Lib.parseUintB, if_neg (by simp), hm, h63]
  show (if 9223372036854775808 ≤ decV 0 (c :: r) then _ else _) = _
  rw [if_neg (by omega)]
def digB (l : List UInt8) (m : Int) : Bool := decide (l ≠ []) && (decide ((l.length : Int) ≤ m) && l.all isDig)
theorem digB_iff {l : List UInt8} {m : Int} : digB l m = true ↔ l ≠ [] ∧ (l.length : Int) ≤ m ∧ l.all isDig = true := by simp [digB]
def zeros6 : List UInt8 := [48, 48, 48, 48, 48, 48]
/-- the six places of a part -/
def sixV (part : List UInt8) : Nat := decV 0 ((part ++ zeros6).take 6)
theorem six_dig {part : List UInt8} (h : part.all isDig = true) : ((part ++ zeros6).take 6).all isDig = true ∧ ((part ++ zeros6).take 6).length = 6 := by
  refine ⟨List.all_eq_true.2 fun c hc => ?_, by simp [zeros6]⟩
  rcases List.mem_append.1 (List.mem_of_mem_take hc) with h' | h'
  · exact List.all_eq_true.1 h c h'
  · simp only [zeros6, List.mem_cons, List.mem_nil_iff, or_false] at h'
    rcases h' with rfl | rfl | rfl | rfl | rfl | rfl <;> decide
theorem six_lt {part : List UInt8} (h : part.all isDig = true) : sixV part < 1000000 := by
  have := decV_lt _ 0 0 (six_dig h).1 (by simp)
  rw [(six_dig h).2] at this
  simpa [sixV] using this
/-- a number's text: below 0, the whole, the part, whether there is a point -/
def numParts (l : List UInt8) : Bool × List UInt8 × List UInt8 × Bool := (Lib.hasPrefix l [45], Lib.cut (Lib.trimPrefix l [45]) [46])
def numOk (l : List UInt8) : Bool := digB (numParts l).2.1 9 && (!(numParts l).2.2.2 || digB (numParts l).2.2.1 6)
def numA (l : List UInt8) : Int := (decV 0 (numParts l).2.1 : Int) * 64 + (sixV (numParts l).2.2.1 : Int) * 64 / 1000000
def numN (l : List UInt8) : Int := if numOk l = true then (if (numParts l).1 = true then -numA l else numA l) else 0
end Go.Proofs.Val
set_option linter.unusedVariables false
set_option linter.unusedSimpArgs false
namespace Go.Proofs.Val
open Go
theorem index_one (c : UInt8) : ∀ (p t : List UInt8), c ∉ p → Lib.index (p ++ c :: t) [c] = p.length
  | [], t, _ => by simp [Lib.index, List.isPrefixOf]
  | d :: p, t, h => by
    have hd : ¬ c = d := fun e => h (by simp [e])
    have ih := index_one c p t (fun e => h (by simp [e]))
    rw [List.cons_append, Lib.index, ih]
    have h1 : ([c].isPrefixOf (d :: (p ++ c :: t))) = false := by simp [List.isPrefixOf, hd]
    rw [h1]
    have h2 : (((p.length : Int)) == -1) = false := beq_eq_false_iff_ne.2 (by omega)
    rw [h2]
    simp
theorem index_not (c : UInt8) : ∀ (p : List UInt8), c ∉ p → Lib.index p [c] = -1
  | [], _ => by simp [Lib.index]
  | d :: p, h => by
    have hd : ¬ c = d := fun e => h (by simp [e])
    have ih := index_not c p (fun e => h (by simp [e]))
    rw [Lib.index, ih]
    have h1 : ([c].isPrefixOf (d :: p)) = false := by simp [List.isPrefixOf, hd]
    rw [h1]; rfl
theorem cut_at_one {c : UInt8} {p : List UInt8} (t : List UInt8) (h : c ∉ p) : Lib.cut (p ++ c :: t) [c] = (p, t, true) := by
  unfold Lib.cut
  rw [index_one c p t h, if_pos (by omega)]
  simp
theorem cut_not {c : UInt8} {p : List UInt8} (h : c ∉ p) : Lib.cut p [c] = (p, [], false) := by
  unfold Lib.cut
  rw [index_not c p h, if_neg (by omega)]
theorem dig_not {c : UInt8} {l : List UInt8} (h : l.all isDig = true) (hc : isDig c = false) : c ∉ l := fun e => by
  have := List.all_eq_true.1 h c e
  rw [hc] at this; cases this
/-! ### the digits of a number -/
theorem dd_dig (u : Nat) : (Lib.decDigits u).all isDig = true := by
  induction u using Nat.strongRecOn with
  | _ u ih =>
    rw [Lib.decDigits]
    split
    · rename_i h
      rw [List.all_cons, List.all_nil, Bool.and_true, isDig_iff, UInt8.toNat_ofNat']
      omega
    · rename_i h
      rw [List.all_append, ih (u / 10) (by omega), List.all_cons, List.all_nil, Bool.and_true, Bool.true_and, isDig_iff, UInt8.toNat_ofNat']
      omega
theorem dd_val (u : Nat) : decV 0 (Lib.decDigits u) = u := by
  induction u using Nat.strongRecOn with
  | _ u ih =>
    rw [Lib.decDigits]
    split
    · rename_i h
      rw [decV_cons, decV_nil, UInt8.toNat_ofNat']
      omega
    · rename_i h
      rw [decV_append, ih (u / 10) (by omega), decV_cons, decV_nil, UInt8.toNat_ofNat']
      omega
theorem dd_ne (u : Nat) : Lib.decDigits u ≠ [] := fun e => by
  have := Lib.decDigits_length u
  rw [e] at this
  have := Lib.nDigits_pos u
  simp at *; omega
theorem dd_len {u k : Nat} (h1 : 1 ≤ k) (h : u < 10 ^ k) : (Lib.decDigits u).length ≤ k := by
  rw [Lib.decDigits_length]
  rcases Nat.lt_or_ge k (Lib.nDigits u) with hk | hk
  · exfalso
    have aux : ∀ (k u : Nat), 1 ≤ k → k < Lib.nDigits u → 10 ^ k ≤ u := by
      intro k
      induction k with
      | zero => intro u h; omega
      | succ k ih =>
        intro u _ hk
        by_cases hu : u < 10
        · rw [Lib.nDigits_small hu] at hk; omega
        · rw [Lib.nDigits_big hu] at hk
          by_cases hk0 : k = 0
          · subst hk0; simp; omega
          · have := ih (u / 10) (by omega) (by omega)
            rw [Nat.pow_succ]
            omega
    have := aux k u h1 hk
    omega
  · exact hk
theorem decV_acc (l : List UInt8) : ∀ a, decV a l = a * 10 ^ l.length + decV 0 l := by
  induction l with
  | nil => intro a; simp [decV]
  | cons c l ih =>
    intro a
    rw [decV_cons, decV_cons, ih, ih (0 * 10 + (c.toNat - 48)), List.length_cons, Nat.pow_succ, Nat.add_mul, Nat.mul_assoc, Nat.mul_comm 10, Nat.zero_mul, Nat.zero_add]
    omega
/-- a number of seven digits, the first one 1: the six behind it -/
theorem dd_seven {r : Nat} (h : r < 1000000) : ∃ s, Lib.decDigits (1000000 + r) = 49 :: s ∧ s.length = 6 ∧ s.all isDig = true ∧ decV 0 s = r := by
  have h1 := dd_len (u := 1000000 + r) (k := 7) (by omega) (by simp; omega)
  have h2 := dd_dig (1000000 + r)
  have h3 := dd_val (1000000 + r)
  have hl : 7 ≤ (Lib.decDigits (1000000 + r)).length := by
    rcases Nat.lt_or_ge (Lib.decDigits (1000000 + r)).length 7 with hlt | hge
    · have := decV_lt _ 0 0 h2 (by simp)
      have h10 : 10 ^ (0 + (Lib.decDigits (1000000 + r)).length) ≤ 10 ^ 6 := Nat.pow_le_pow_right (by omega) (by omega)
      rw [h3] at this
      have h6 : (10 : Nat) ^ 6 = 1000000 := by decide
      generalize 10 ^ (0 + (Lib.decDigits (1000000 + r)).length) = T at h10 this
      omega
    · exact hge
  obtain ⟨c, s, hc⟩ := List.exists_cons_of_ne_nil (dd_ne (1000000 + r))
  rw [hc] at h1 h2 h3 hl ⊢
  rw [List.length_cons] at h1 hl
  rw [List.all_cons, Bool.and_eq_true] at h2
  have hs : s.length = 6 := by omega
  rw [decV_cons, decV_acc, hs] at h3
  have hb := decV_lt s 0 0 h2.2 (by simp)
  rw [hs] at hb
  have hcc := isDig_iff.1 h2.1
  simp at h3 hb
  have hcv : c.toNat = 49 := by omega
  have hc49 : c = 49 := by
    have : c = UInt8.ofNat c.toNat := by simp
    rw [this, hcv]; rfl
  rw [hc49]
  exact ⟨s, rfl, hs, h2.2, by rw [hcv] at h3; omega⟩
/-! ### zeros behind a part -/
theorem trz (s : List UInt8) : ∃ k, s = Lib.trimRightS s [48] ++ List.replicate k 48 ∧ (∀ c, (Lib.trimRightS s [48]).getLast? = some c → c ≠ 48) := by
  have aux : ∀ r : List UInt8, ∃ k, r = List.replicate k 48 ++ r.dropWhile (([48] : List UInt8).contains ·) ∧ (∀ c, (r.dropWhile (([48] : List UInt8).contains ·)).head? = some c → c ≠ 48) := by
    intro r
    induction r with
    | nil => exact ⟨0, by simp, by simp⟩
    | cons c r ih =>
      by_cases h : c = 48
      · subst h
        obtain ⟨k, h1, h2⟩ := ih
        refine ⟨k + 1, ?_, ?_⟩
        · have e : (48 :: r : List UInt8).dropWhile (([48] : List UInt8).contains ·) = r.dropWhile (([48] : List UInt8).contains ·) := by simp [List.dropWhile]
          rw [e, List.replicate_succ, List.cons_append, ← h1]
        · simpa [List.dropWhile] using h2
      · have hh : (([48] : List UInt8).contains c) = false := by simp [h]
        refine ⟨0, by simp [List.dropWhile, h], ?_⟩
        intro d hd
        simp only [List.dropWhile, hh] at hd
        simp at hd
        rw [← hd]; exact h
  obtain ⟨k, h1, h2⟩ := aux s.reverse
  refine ⟨k, ?_, ?_⟩
  · have := congrArg List.reverse h1
    rw [List.reverse_reverse, List.reverse_append, List.reverse_replicate] at this
    exact this
  · intro c hc
    apply h2 c
    unfold Lib.trimRightS at hc
    rw [List.getLast?_reverse] at hc
    exact hc
theorem six_trim {s : List UInt8} (h6 : s.length = 6) : sixV (Lib.trimRightS s [48]) = decV 0 s := by
  obtain ⟨k, h1, _⟩ := trz s
  generalize Lib.trimRightS s [48] = t at h1
  have hk : t.length + k = 6 := by rw [h1] at h6; simpa using h6
  unfold sixV
  congr 1
  rw [h1, List.take_append]
  have e : zeros6 = List.replicate 6 48 := rfl
  rw [e, List.take_replicate, List.take_of_length_le (by omega)]
  congr 2
  omega
/-! ### the text -/
def fracL (r : Nat) : List UInt8 := Lib.trimRightS ((Lib.decDigits (1000000 + r * 15625)).drop 1) [48]
def decL (n : Int) : List UInt8 :=
  Lib.trimSuffix ((if n < 0 then [45] else []) ++ Lib.decDigits (n.natAbs / 64) ++ ([46] ++ fracL (n.natAbs % 64))) [46]
theorem frac_ok {r : Nat} (h : r < 64) : (fracL r).all isDig = true ∧ (fracL r).length ≤ 6 ∧ sixV (fracL r) = r * 15625 := by
  obtain ⟨s, h1, h2, h3, h4⟩ := dd_seven (r := r * 15625) (by omega)
  have e : fracL r = Lib.trimRightS s [48] := by unfold fracL; rw [h1]; rfl
  obtain ⟨k, h5, _⟩ := trz s
  rw [e]
  refine ⟨?_, ?_, by rw [six_trim h2, h4]⟩
  · rw [h5, List.all_append, Bool.and_eq_true] at h3
    exact h3.1
  · rw [h5, List.length_append] at h2
    omega
theorem suffix_snoc (l : List UInt8) (c d : UInt8) : Lib.hasSuffix (l ++ [c]) [d] = decide (c = d) := by
  unfold Lib.hasSuffix
  rw [Bool.eq_iff_iff, List.isSuffixOf_iff_suffix, decide_eq_true_iff]
  constructor
  · rintro ⟨t, ht⟩
    have := congrArg List.getLast? ht
    simp at this
    exact this.symm
  · rintro rfl
    exact ⟨l, rfl⟩
theorem decL_eq (n : Int) : decL n = (if n < 0 then [45] else []) ++ Lib.decDigits (n.natAbs / 64) ++ (if fracL (n.natAbs % 64) = [] then [] else 46 :: fracL (n.natAbs % 64)) := by
  have hf := (frac_ok (r := n.natAbs % 64) (by omega)).1
  unfold decL
  generalize fracL (n.natAbs % 64) = t at hf ⊢
  generalize (if n < 0 then [45] else []) ++ Lib.decDigits (n.natAbs / 64) = p
  by_cases h : t = []
  · rw [if_pos h, h]
    unfold Lib.trimSuffix
    rw [List.append_nil, suffix_snoc, if_pos (by decide)]
    simp
  · rw [if_neg h]
    obtain ⟨t', c, rfl⟩ : ∃ t' c, t = t' ++ [c] := ⟨t.dropLast, t.getLast h, (List.dropLast_concat_getLast h).symm⟩
    have hc : isDig c = true := by simp at hf; exact hf.2
    unfold Lib.trimSuffix
    rw [← List.append_assoc, ← List.append_assoc, suffix_snoc, if_neg]
    · simp
    · rw [decide_eq_true_iff]
      rintro rfl
      cases hc
theorem prefix_neg (l : List UInt8) : Lib.hasPrefix (45 :: l) [45] = true ∧ Lib.trimPrefix (45 :: l) [45] = l := by
  have h : Lib.hasPrefix (45 :: l) [45] = true := by simp [Lib.hasPrefix, List.isPrefixOf]
  exact ⟨h, by unfold Lib.trimPrefix; rw [if_pos h]; rfl⟩
theorem prefix_pos {l r : List UInt8} (h : l.all isDig = true) (hl : l ≠ []) : Lib.hasPrefix (l ++ r) [45] = false ∧ Lib.trimPrefix (l ++ r) [45] = l ++ r := by
  obtain ⟨c, t, rfl⟩ := List.exists_cons_of_ne_nil hl
  have hc : isDig c = true := by simp at h; exact h.1
  have : c ≠ 45 := fun e => by rw [e] at hc; cases hc
  have h2 : Lib.hasPrefix (c :: t ++ r) [45] = false := by simp [Lib.hasPrefix, List.isPrefixOf]; exact fun e => this e.symm
  exact ⟨h2, by unfold Lib.trimPrefix; rw [if_neg (by rw [h2]; simp)]⟩
/-- what a sign, digits, and a part of digits, spell -/
theorem num_text (b : Bool) {w t : List UInt8} (hw : digB w 9 = true) (ht : t = [] ∨ digB t 6 = true) :
    numOk ((if b = true then [45] else []) ++ w ++ (if t = [] then [] else 46 :: t)) = true ∧
    numN ((if b = true then [45] else []) ++ w ++ (if t = [] then [] else 46 :: t)) = (if b = true then -((decV 0 w : Int) * 64 + (sixV t : Int) * 64 / 1000000) else (decV 0 w : Int) * 64 + (sixV t : Int) * 64 / 1000000) := by
  obtain ⟨w1, w2, w3⟩ := digB_iff.1 hw
  have hp : numParts ((if b = true then [45] else []) ++ w ++ (if t = [] then [] else 46 :: t)) = (b, w, t, decide (t ≠ [])) := by
    have hc : Lib.cut (w ++ (if t = [] then [] else 46 :: t)) [46] = (w, t, decide (t ≠ [])) := by
      by_cases h : t = []
      · rw [if_pos h, List.append_nil, cut_not (dig_not w3 (by decide)), h]; rfl
      · rw [if_neg h, cut_at_one _ (dig_not w3 (by decide))]; simp [h]
    unfold numParts
    cases b
    · rw [if_neg (by simp), List.nil_append, (prefix_pos w3 w1).1, (prefix_pos w3 w1).2, hc]
    · rw [if_pos rfl, List.append_assoc, List.singleton_append, (prefix_neg _).1, (prefix_neg _).2, hc]
  have hok : numOk ((if b = true then [45] else []) ++ w ++ (if t = [] then [] else 46 :: t)) = true := by
    unfold numOk
    rw [hp]
    show (digB w 9 && (!(decide (t ≠ [])) || digB t 6)) = true
    rw [hw]
    rcases ht with rfl | ht
    · rfl
    · rw [ht]; simp
  refine ⟨hok, ?_⟩
  unfold numN numA
  rw [hok, if_pos rfl, hp]
theorem decL_read (n : Int) (h1 : -63999999999 ≤ n) (h2 : n ≤ 63999999999) : numOk (decL n) = true ∧ numN (decL n) = n := by
  obtain ⟨f1, f2, f3⟩ := frac_ok (r := n.natAbs % 64) (by omega)
  rw [decL_eq]
  have hw : digB (Lib.decDigits (n.natAbs / 64)) 9 = true := digB_iff.2 ⟨dd_ne _, by have := dd_len (u := n.natAbs / 64) (k := 9) (by omega) (by simp; omega); omega, dd_dig _⟩
  have ht : fracL (n.natAbs % 64) = [] ∨ digB (fracL (n.natAbs % 64)) 6 = true := by
    by_cases h : fracL (n.natAbs % 64) = []
    · exact .inl h
    · exact .inr (digB_iff.2 ⟨h, by omega, f1⟩)
  have := num_text (decide (n < 0)) hw ht
  simp only [decide_eq_true_eq] at this
  refine ⟨this.1, this.2.trans ?_⟩
  rw [dd_val, f3]
  split <;> omega
theorem decL_front (n : Int) : ∃ c t, decL n = c :: t ∧ (c = 45 ∨ isDig c = true) := by
  rw [decL_eq]
  by_cases h : n < 0
  · rw [if_pos h]; exact ⟨45, _, rfl, .inl rfl⟩
  · rw [if_neg h]
    obtain ⟨c, t, hc⟩ := List.exists_cons_of_ne_nil (dd_ne (n.natAbs / 64))
    have hd := dd_dig (n.natAbs / 64)
    rw [hc] at hd ⊢
    rw [List.all_cons, Bool.and_eq_true] at hd
    exact ⟨c, _, rfl, .inr hd.1⟩
theorem decL_in (n : Int) : ∀ c ∈ decL n, c = 45 ∨ c = 46 ∨ isDig c = true := by
  intro c hc
  rw [decL_eq] at hc
  have f1 := (frac_ok (r := n.natAbs % 64) (by omega)).1
  rcases List.mem_append.1 hc with hc | hc
  · rcases List.mem_append.1 hc with hc | hc
    · split at hc
      · simp at hc; exact .inl hc
      · cases hc
    · exact .inr (.inr (List.all_eq_true.1 (dd_dig _) c hc))
  · split at hc
    · cases hc
    · rcases List.mem_cons.1 hc with rfl | hc
      · exact .inr (.inl rfl)
      · exact .inr (.inr (List.all_eq_true.1 f1 c hc))
theorem decL_len (n : Int) (h1 : -63999999999 ≤ n) (h2 : n ≤ 63999999999) : (decL n).length ≤ 17 := by
  rw [decL_eq]
  have f2 := (frac_ok (r := n.natAbs % 64) (by omega)).2.1
  have := dd_len (u := n.natAbs / 64) (k := 9) (by omega) (by simp; omega)
  rw [List.length_append, List.length_append]
  split <;> split <;> simp <;> omega
end Go.Proofs.Val
