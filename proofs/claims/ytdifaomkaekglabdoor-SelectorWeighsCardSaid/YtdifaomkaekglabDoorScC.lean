/- scan.words, an iterator that keeps its text in a captured variable: its contract, proved by walking its text; no condition beside those that each theorem states. -/
import Derived.RangeFuncNested
import Derived.RangeFuncBound
import Derived.RangeFuncCalls
import Derived.RangeFuncLeaves
import Derived.Shelf.Abstract
import Derived.Shelf.RegionOpen
import Derived.WalkKit
import Derived.OwnWalkIn
import Derived.TacticsInMore
import Derived.LoopNIn
import Derived.LoopIn
import Derived.Test.YtdifaomkaekglabDoorScA
set_option linter.unusedVariables false
set_option linter.unusedSimpArgs false
namespace Go.Proofs.Scn
open Go.RowKit Go.Lib Go.Shelf
attribute [local go_sem] Oper.semAt_some
/-! ### words -/
/-- where the first blank stands, or the end -/
def wordEnd (t : List UInt8) : Nat := if Lib.indexAny t [32, 9, 10, 13] < 0 then t.length else (Lib.indexAny t [32, 9, 10, 13]).toNat
def wordsF : Nat → List UInt8 → List (List UInt8)
  | 0, _ => []
  | k + 1, s => if wordEnd (Lib.trimLeftS s [32, 9, 10, 13]) = 0 then [] else (Lib.trimLeftS s [32, 9, 10, 13]).take (wordEnd (Lib.trimLeftS s [32, 9, 10, 13])) :: wordsF k ((Lib.trimLeftS s [32, 9, 10, 13]).drop (wordEnd (Lib.trimLeftS s [32, 9, 10, 13])))
def wordsV (s : ByteArray) : List ByteArray := (wordsF (s.size + 1) s.data.toList).map fun l => ⟨l.toArray⟩
theorem indexAny_le (cs : List UInt8) : ∀ l : List UInt8, Lib.indexAny l cs ≤ (l.length : Int)
  | [] => by simp [Lib.indexAny]
  | b :: l => by
    have ih := indexAny_le cs l
    unfold Lib.indexAny
    split
    · simp; omega
    · split
      · simp; omega
      · simp; omega
theorem wordEnd_le (t : List UInt8) : wordEnd t ≤ t.length := by
  unfold wordEnd
  have := indexAny_le [32, 9, 10, 13] t
  split <;> omega
theorem trimLeft_le (l cs : List UInt8) : (Lib.trimLeftS l cs).length ≤ l.length := (List.dropWhile_sublist _).length_le
def boxLen (B : Nat) (W : World) : Nat := match W.cell? ⟨B, 0, none⟩ with | some (.string s) => s.size | _ => 0
theorem boxLen_eq {B : Nat} {W : World} {t : TypeId} {s : ByteArray} (h : Boxed W B t (.string s)) : boxLen B W = s.size := by unfold boxLen; rw [h.cell]
theorem Boxed.belowW {W W' : World} {B : Nat} {t : TypeId} {v : Value} (h : Boxed W B t v) (hb : Below W.heap.size W W') : Boxed W' B t v := (hb.block B h.lt).trans h
theorem ext_drop (t : List UInt8) (m : Nat) : (⟨t.toArray⟩ : ByteArray).extract m t.length = ⟨(t.drop m).toArray⟩ := by
  rw [Lib.extract_mk, List.take_of_length_le (by simp)]
theorem ext_take (t : List UInt8) (m : Nat) : (⟨t.toArray⟩ : ByteArray).extract 0 m = ⟨(t.take m).toArray⟩ := by
  rw [Lib.extract_mk, List.drop_zero, Nat.sub_zero]
set_option maxRecDepth 100000 in
set_option maxHeartbeats 4000000 in
/-- the iterator: for every loop body that goes on, and keeps the iterator's own variable; J abides new blocks and that variable's turns -/
theorem words_iter (n : Nat) (l Bs : Nat) (J : List ByteArray → World → Prop) (s : ByteArray) (hs : s.size < 4294967281)
    (hJ : ∀ (pre : List ByteArray) (A A' : World), J pre A → Below A.heap.size A A' → J pre A') (hS : ∀ (pre : List ByteArray) (A : World) (v : Value), J pre A → J pre (A.setCell ⟨Bs, 0, none⟩ v))
    (hY : ∀ (pre : List ByteArray) (x : ByteArray × ByteArray) (W : World), J pre W → Boxed W Bs 9 (.string x.1) → x.2.size ≤ s.size → pre.length < s.size → YieldAt Fence.wide (n - 1) Tryd.prog l #[.string x.2] W fun e W' => e = .returned (.bool true) ∧ J (pre ++ [x.2]) W' ∧ Boxed W' Bs 9 (.string x.1))
    (W : World) (hBs : Boxed W Bs 9 (.string s)) (h0 : J [] W) :
    CallsIn Fence.wide n Tryd.prog 46 #[.func (.yield l) #[] #[], .pointer (some ⟨Bs, 0, none⟩)] W fun e W' => (∃ v, e = .returned v) ∧ J (wordsV s) W' := by
  refine callsIn_of_wp Tryd.func46 rfl trivial ?_ rfl
  simp only [Tryd.ntmps46, List.size_toArray, List.length_cons, List.length_nil, Nat.reduceAdd, Nat.reduceSub, Array.replicate_succ, Array.replicate_zero, List.push_toArray, List.append_toArray, List.nil_append, List.cons_append]
  have H0 : Aside (∃ (rest : List UInt8) (pre : List (List UInt8)) (fuel : Nat), Boxed W Bs 9 (.string ⟨rest.toArray⟩) ∧ J (pre.map fun l => ⟨l.toArray⟩) W ∧ pre ++ wordsF fuel rest = wordsF (s.size + 1) s.data.toList ∧ rest.length < fuel ∧ pre.length + rest.length ≤ s.size) :=
    ⟨s.data.toList, [], s.size + 1, hBs, h0, rfl, by rw [← Lib.size_eq]; omega, by rw [← Lib.size_eq]; simp⟩
  have HJ : Aside (∀ (pre : List ByteArray) (A A' : World), J pre A → Below A.heap.size A A' → J pre A') := hJ
  have HS : Aside (∀ (pre : List ByteArray) (A : World) (v : Value), J pre A → J pre (A.setCell ⟨Bs, 0, none⟩ v)) := hS
  have HY : Aside (∀ (pre : List ByteArray) (x : ByteArray × ByteArray) (W : World), J pre W → Boxed W Bs 9 (.string x.1) → x.2.size ≤ s.size → pre.length < s.size → YieldAt Fence.wide (n - 1) Tryd.prog l #[.string x.2] W fun e W' => e = .returned (.bool true) ∧ J (pre ++ [x.2]) W' ∧ Boxed W' Bs 9 (.string x.1)) := hY
  clear hJ hS hY hBs h0
  gi_wp2
  gi_loopw [] (fun wr => Aside (∃ (rest : List UInt8) (pre : List (List UInt8)) (fuel : Nat), Boxed wr Bs 9 (.string ⟨rest.toArray⟩) ∧ J (pre.map fun l => ⟨l.toArray⟩) wr ∧ pre ++ wordsF fuel rest = wordsF (s.size + 1) s.data.toList ∧ rest.length < fuel ∧ pre.length + rest.length ≤ s.size)) (fun wr => boxLen Bs wr)
  case atStart => exact H0
  case round =>
    clear H0
    obtain ⟨rest, pre, fuel, hb, hJp, hE, hf, hr⟩ := hrel
    obtain ⟨fu, rfl⟩ : ∃ fu, fuel = fu + 1 := ⟨fuel - 1, by omega⟩
    obtain ⟨t, ht⟩ : ∃ t, Lib.trimLeftS rest [32, 9, 10, 13] = t := ⟨_, rfl⟩
    obtain ⟨m, hm⟩ : ∃ m, wordEnd t = m := ⟨_, rfl⟩
    have htl := trimLeft_le rest [32, 9, 10, 13]
    have hml := wordEnd_le t
    rw [ht] at htl
    rw [hm] at hml
    have T1 : ∀ w, Calls Tryd.prog 47 #[.string ⟨rest.toArray⟩, .string ⟨#[32, 9, 10, 13]⟩] w fun e w' => e = .returned (.string ⟨t.toArray⟩) ∧ Below w.heap.size w w' := fun w => by
      have c := Any.strings_TrimLeft_laid Tryd.lays161 (by kernel_rfl) ⟨rest.toArray⟩ ⟨#[32, 9, 10, 13]⟩ w (by decide) (ascii_of_all (by decide))
      rw [show (⟨rest.toArray⟩ : ByteArray).data.toList = rest by simp] at c
      rw [show Lib.trimLeftS rest (⟨#[32, 9, 10, 13]⟩ : ByteArray).data.toList = t from ht] at c
      exact c
    have hcell := hb.cell
    have hfro := hb.frozen
    have HB : Aside (Boxed wr Bs 9 (.string ⟨rest.toArray⟩)) := hb
    have HJP : Aside (J (pre.map fun l => ⟨l.toArray⟩) wr) := hJp
    have HE : Aside (pre ++ wordsF (fu + 1) rest = wordsF (s.size + 1) s.data.toList) := hE
    have HT : Aside (Lib.trimLeftS rest [32, 9, 10, 13] = t ∧ wordEnd t = m) := ⟨ht, hm⟩
    clear hb hJp hE ht hm
    gi_wp2_with fail
    refine ⟨trivial, (fun h => absurd h (by decide)), (callsIn_wide.2 (T1 _)).mono ?_⟩
    rintro e w1 ⟨rfl, hb1⟩
    have B1 : Aside (Boxed w1 Bs 9 (.string ⟨rest.toArray⟩) ∧ J (pre.map fun l => ⟨l.toArray⟩) w1) := ⟨Boxed.belowW HB.out hb1, HJ.out _ _ _ HJP.out hb1⟩
    have hcell1 := B1.out.1.cell
    have hfro1 := B1.out.1.frozen
    clear hcell hfro hb1 T1
    gi_wp2_with fail
    have B2 : Aside (Boxed (w1.setCell ⟨Bs, 0, none⟩ (.string ⟨t.toArray⟩)) Bs 9 (.string ⟨t.toArray⟩) ∧ J (pre.map fun l => ⟨l.toArray⟩) (w1.setCell ⟨Bs, 0, none⟩ (.string ⟨t.toArray⟩))) := ⟨Boxed.set _ B1.out.1, HS.out _ _ _ B1.out.2⟩
    clear hcell1 hfro1 B1
    have hmr : m ≤ rest.length := by omega
    have I0 : ∀ w, Calls Tryd.prog 48 #[.string ⟨t.toArray⟩, .string ⟨#[32, 9, 10, 13]⟩] w fun e w' => e = .returned (.int .i64 (Lib.indexAny t [32, 9, 10, 13])) ∧ Below w.heap.size w w' := fun w => by
      have c := ShX.xIndexAny Tryd.lays153 (by kernel_rfl) ⟨t.toArray⟩ ⟨#[32, 9, 10, 13]⟩ w (by simp only [Lib.size_mk]; omega) (by decide) (by decide) (ascii_of_all (by decide))
      rw [show (⟨t.toArray⟩ : ByteArray).data.toList = t by simp] at c
      exact c
    have hia : Lib.indexAny t [32, 9, 10, 13] = -1 ∧ t.length = m ∨ Lib.indexAny t [32, 9, 10, 13] = (m : Int) ∧ m ≤ t.length := by
      have h1 := HT.out.2
      unfold wordEnd at h1
      have h2 := Lib.indexAny_ge [32, 9, 10, 13] t
      split at h1
      · exact .inl ⟨by omega, h1⟩
      · exact .inr ⟨by omega, hml⟩
    rcases hia with ⟨hi1, hlen⟩ | ⟨hi1, hlen⟩
    all_goals
      rw [hi1] at I0
      clear hi1
      refine ⟨trivial, (fun h => absurd h (by decide)), (callsIn_wide.2 (I0 _)).mono ?_⟩
      rintro e w2 ⟨rfl, hb2⟩
      have B3 : Aside (Boxed w2 Bs 9 (.string ⟨t.toArray⟩) ∧ J (pre.map fun l => ⟨l.toArray⟩) w2) := ⟨Boxed.belowW B2.out.1 hb2, HJ.out _ _ _ B2.out.2 hb2⟩
      have hcell3 := B3.out.1.cell
      have hfro3 := B3.out.1.frozen
      clear hb2 I0 B2
      by_cases hm0 : m = 0
      · have hmz : ((m : Int) == 0) = true := by simp [hm0]
        have HE2 : Aside (pre = wordsF (s.size + 1) s.data.toList) := by
          have h := HE.out
          rw [wordsF, HT.out.1, HT.out.2, if_pos hm0, List.append_nil] at h
          exact h
        clear hm0
        gi_wp2
        refine ⟨(fun _ h => (by cases h)), ?_⟩
        gi_wp2
        refine bodyPost_ret (results_none rfl _ _ _) rfl ?_
        exact ⟨⟨_, rfl⟩, by rw [wordsV, ← HE2.out]; exact B3.out.2⟩
      · have hmz : ((m : Int) == 0) = false := by simp [hm0]
        have hmt : (m : Int) ≤ (t.length : Int) := by omega
        obtain ⟨fn, tmps, assign, body, hy, hR⟩ := HY.out (pre.map fun l => ⟨l.toArray⟩) (⟨t.toArray⟩, (⟨t.toArray⟩ : ByteArray).extract 0 m) w2 B3.out.2 B3.out.1 (by simp only [ByteArray.size_extract, Lib.size_mk]; omega) (by rw [List.length_map]; omega)
        dsimp only at hy
        have hmp : 1 ≤ m := by omega
        have HE2 : Aside ((pre ++ [t.take m]) ++ wordsF fu (t.drop m) = wordsF (s.size + 1) s.data.toList) := by
          have h := HE.out
          rw [wordsF, HT.out.1, HT.out.2, if_neg hm0] at h
          rw [List.append_assoc]
          exact h
        clear hm0
        gi_wp2
        refine ⟨(fun h => absurd h (by decide)), hR.mono ?_⟩
        rintro e W3 ⟨rfl, hJ4, hb4⟩
        have B4 : Aside (Boxed W3 Bs 9 (.string ⟨t.toArray⟩) ∧ J ((pre.map fun l => ⟨l.toArray⟩) ++ [(⟨t.toArray⟩ : ByteArray).extract 0 m]) W3) := ⟨hb4, hJ4⟩
        have hcell4 := hb4.cell
        have hfro4 := hb4.frozen
        clear hb4 hJ4 hcell3 hfro3 B3 hy hR
        gi_wp2
        have ev1 := ext_drop t m
        have ev0 : t.length = m → ByteArray.empty = (⟨(t.drop m).toArray⟩ : ByteArray) := fun h => by rw [List.drop_eq_nil_of_le (by omega)]; rfl
        first | rw [ev1] | rw [ev0 hlen]
        have BX := Boxed.set (.string ⟨(t.drop m).toArray⟩) B4.out.1
        refine ⟨⟨t.drop m, pre ++ [t.take m], fu, BX, ?_, HE2.out, by rw [List.length_drop]; omega, by rw [List.length_drop, List.length_append, List.length_singleton]; omega⟩, ?_⟩
        · have h := HS.out _ _ (.string ⟨(t.drop m).toArray⟩) B4.out.2
          rw [ext_take] at h
          simpa using h
        · rw [boxLen_eq BX, boxLen_eq HB.out, Lib.size_mk, Lib.size_mk, List.length_drop]
          omega
end Go.Proofs.Scn
