/- value.of of any number, value.Name, value.First, value.Prop: contracts proved by walking their text; no condition beside those that each theorem states. -/
import Derived.Test.YtmfhhlgjbjbnhaaGreatDoorVmB
set_option linter.unusedVariables false
set_option linter.unusedSimpArgs false
namespace Go.Proofs.Val
open Go.RowKit Go.Proofs Go.Proofs.YtmfhhlgjbjbnhaaGreatDoorW.PrintWords
/-- the number of a property, 0 if it is none -/
def cl (p : Int) : Nat := if 1 ≤ p ∧ p ≤ 26 then p.toNat else 0
theorem cl_in {p : Int} (h1 : 1 ≤ p) (h2 : p ≤ 26) : cl p = p.toNat := if_pos ⟨h1, h2⟩
theorem cl_out {p : Int} (h : ¬ (1 ≤ p ∧ p ≤ 26)) : cl p = 0 := if_neg h
theorem cl_le (p : Int) : cl p ≤ 26 := by unfold cl; split <;> omega
def wordsP (p : Nat) : List ByteArray :=
  if p = 1 then [⟨#[98, 108, 111, 99, 107]⟩, ⟨#[105, 110, 108, 105, 110, 101]⟩, ⟨#[102, 108, 101, 120]⟩, ⟨#[110, 111, 110, 101]⟩]
  else if p = 19 then [⟨#[108, 101, 102, 116]⟩, ⟨#[99, 101, 110, 116, 101, 114]⟩, ⟨#[114, 105, 103, 104, 116]⟩]
  else if p = 22 then [⟨#[114, 111, 119]⟩, ⟨#[99, 111, 108, 117, 109, 110]⟩]
  else if p = 23 then [⟨#[115, 116, 97, 114, 116]⟩, ⟨#[99, 101, 110, 116, 101, 114]⟩, ⟨#[101, 110, 100]⟩, ⟨#[98, 101, 116, 119, 101, 101, 110]⟩]
  else []
/-- a property's sort, its words in whatever row -/
def recA (p : Nat) (wa : Option Addr) : SortRec := { rec0 p with wa := wa }
structure WordsIn (w : World) (wa : Option Addr) (l : List ByteArray) : Prop where
  at_ : l = [] ∨ ∃ b, wa = some ⟨b, 0, none⟩ ∧ ∀ j, j < l.length → w.cell? ⟨b, 0 + j, none⟩ = some (.string (l.getD j ByteArray.empty))
theorem WordsIn.below {w w' : World} {wa : Option Addr} {l : List ByteArray} (h : WordsIn w wa l) (hb : Below w.heap.size w w') : WordsIn w' wa l := by
  rcases h.at_ with h | ⟨b, e, h⟩
  · exact ⟨.inl h⟩
  · exact ⟨.inr ⟨b, e, fun j hj => (hb.cell (World.block_lt_of_cell? _ _ (h j hj))).trans (h j hj)⟩⟩
theorem wordsP_len (p : Nat) (h : p ≤ 26) : (rec0 p).wn = (wordsP p).length := by
  by_cases h0 : p = 0
  · subst h0; rfl
  · rcases cases26 (by omega) h with rfl | rfl | rfl | rfl | rfl | rfl | rfl | rfl | rfl | rfl | rfl | rfl | rfl | rfl | rfl | rfl | rfl | rfl | rfl | rfl | rfl | rfl | rfl | rfl | rfl | rfl <;> rfl
theorem words_row {W : World} {b : Nat} {l : List (List UInt8)} (h : WordRow' W b 9 l) : ∀ j, j < (l.map fun s => (⟨s.toArray⟩ : ByteArray)).length → W.cell? ⟨b, 0 + j, none⟩ = some (.string ((l.map fun s => (⟨s.toArray⟩ : ByteArray)).getD j ByteArray.empty)) := fun j hj => by
  rw [List.length_map] at hj
  rw [Nat.zero_add, cell_of_row _ _ _ _ _ _ h]
  simp [List.getD, List.getElem?_eq_getElem hj]
theorem rec_words {w W : World} {b1 b2 b3 b4 : Nat} (p : Nat) (h1 : 1 ≤ p) (h2 : p ≤ 26) (h : SortWords w W b1 b2 b3 b4) :
    recOf p b1 b2 b3 b4 = recA p (recOf p b1 b2 b3 b4).wa ∧ WordsIn W (recOf p b1 b2 b3 b4).wa (wordsP p) := by
  have r1 := words_row h.r1
  have r2 := words_row h.r2
  have r3 := words_row h.r3
  have r4 := words_row h.r4
  rcases cases26 h1 h2 with rfl | rfl | rfl | rfl | rfl | rfl | rfl | rfl | rfl | rfl | rfl | rfl | rfl | rfl | rfl | rfl | rfl | rfl | rfl | rfl | rfl | rfl | rfl | rfl | rfl | rfl
  all_goals refine ⟨rfl, ⟨?_⟩⟩
  all_goals first | exact .inl rfl | exact .inr ⟨_, rfl, r1⟩ | exact .inr ⟨_, rfl, r2⟩ | exact .inr ⟨_, rfl, r3⟩ | exact .inr ⟨_, rfl, r4⟩
set_option maxHeartbeats 1000000 in
theorem ofP (p : Int) (w : World) :
    Calls Tryz.prog 19 #[.int .i64 p] w fun e w' => ∃ wa, e = .returned (.tuple #[recV (recA (cl p) wa), .bool (decide (1 ≤ p ∧ p ≤ 26))]) ∧ WordsIn w' wa (wordsP (cl p)) ∧ Below w.heap.size w w' := by
  by_cases h : 1 ≤ p ∧ p ≤ 26
  · obtain ⟨q, rfl⟩ : ∃ q : Nat, p = (q : Int) := ⟨p.toNat, by omega⟩
    rw [cl_in h.1 h.2, decide_eq_true h, Int.toNat_natCast]
    refine (ofC q (by omega) (by omega) w).mono ?_
    rintro e w' ⟨b1, b2, b3, b4, rfl, hw, hb⟩
    obtain ⟨r1, r2⟩ := rec_words q (by omega) (by omega) hw
    exact ⟨_, by rw [← r1], r2, hb⟩
  · rw [cl_out h, decide_eq_false h]
    by_cases h1 : p < 1
    · have d1 : decide (p < 1) = true := decide_eq_true h1
      clear h
      go_enter Tryz.func19, Tryz.ntmps19
      go_wp2
      refine bodyPost_ret (v := .tuple #[recV (recA 0 none), .bool false]) (by simp [results, Tryz.results19, go_sem, recA, rec0, recOf, recs]) rfl ⟨none, rfl, ⟨.inl rfl⟩, (Below.refl _ _).alloc (Nat.le_refl _) _⟩
    · have d1 : decide (p < 1) = false := decide_eq_false h1
      have d2 : decide (27 ≤ p) = true := decide_eq_true (by omega)
      clear h
      go_enter Tryz.func19, Tryz.ntmps19
      go_wp2
      refine bodyPost_ret (v := .tuple #[recV (recA 0 none), .bool false]) (by simp [results, Tryz.results19, go_sem, recA, rec0, recOf, recs]) rfl ⟨none, rfl, ⟨.inl rfl⟩, (Below.refl _ _).alloc (Nat.le_refl _) _⟩
def nameP (p : Int) : ByteArray := (rec0 (cl p)).name
set_option maxHeartbeats 1000000 in
theorem nameC (p : Int) (w : World) : Calls Tryz.prog 9 #[.int .i64 p] w fun e w' => e = .returned (.string (nameP p)) ∧ Below w.heap.size w w' := by
  go_enter Tryz.func9, Tryz.ntmps9
  go_wp2_with (go_at_call 19; refine (ofP p _).mono ?_; rintro e w' ⟨wa, rfl, hw, hb⟩; clear hw)
  go_ret
  exact ⟨rfl, hb.alloc hb.size _⟩
def firstP (p : Int) : Int × Int := ((rec0 (cl p)).k, (rec0 (cl p)).n)
set_option maxHeartbeats 1000000 in
theorem firstPC (p : Int) (w : World) : Calls Tryz.prog 15 #[.int .i64 p] w fun e w' => e = .returned (.agg #[.int .i64 (firstP p).1, .int .i64 (firstP p).2]) ∧ Below w.heap.size w w' := by
  go_enter Tryz.func15, Tryz.ntmps15
  go_wp2_with (go_at_call 19; refine (ofP p _).mono ?_; rintro e w' ⟨wa, rfl, hw, hb⟩; clear hw; obtain ⟨hc, hf⟩ := bcell hb; have hz : w.heap.size < w'.heap.size := by (have hs := hb.size; rw [alloc_size] at hs; omega))
  refine bodyPost_ret (v := .agg #[.int .i64 (firstP p).1, .int .i64 (firstP p).2]) (by simp [results, Tryz.results15, go_sem, hc, hz, firstP, recA]) rfl ⟨rfl, ?_⟩
  have p1 : Below w.heap.size w w' := ((Below.refl _ _).alloc (Nat.le_refl _) _).trans (hb.mono (by rw [alloc_size]; omega))
  exact ((p1.setCell (by exact Nat.le_refl _) _).setCell (by exact Nat.le_refl _) _).alloc (by rw [setc_size, setc_size]; omega) _
/-- the names of the 26 properties -/
def namesL : List ByteArray := (List.range 26).map fun k => (rec0 (k + 1)).name
def propI (s : ByteArray) : Int := Lib.idxOfS namesL s
def propV (s : ByteArray) : Int := max (propI s + 1) 0
theorem ba_eq (s t : ByteArray) : (s.toList == t.toList) = decide (s = t) := by
  by_cases h : s = t
  · rw [decide_eq_true h, h]; simp
  · rw [decide_eq_false h]
    refine beq_eq_false_iff_ne.2 fun e => h ?_
    rw [Lib.toList_data, Lib.toList_data] at e
    cases s; cases t
    exact congrArg ByteArray.mk (Array.toList_inj.1 e)
set_option maxHeartbeats 1000000 in
theorem prop1C (r : SortRec) (s : ByteArray) (nb : Nat) (w : World) (hn : w.cell? ⟨nb, 0, none⟩ = some (.string s)) :
    Calls Tryz.prog 28 #[recV r, .pointer (some ⟨nb, 0, none⟩)] w fun e w' => e = .returned (.bool (decide (r.name = s))) ∧ Below w.heap.size w w' := by
  have hlt := World.block_lt_of_cell? _ _ hn
  go_enter Tryz.func28, Tryz.ntmps28
  go_wp2
  go_ret
  exact ⟨by rw [← ba_eq]; rfl, below_alloc (Below.refl _ _) _⟩
theorem at_SA (q : Nat) (hq : q < 26) (b1 b2 b3 b4 : Nat) (g : Nat) (w : World) (h : w.heap[g]? = some (.cells (SA 4 b1 b2 b3 b4) 42 (0, 0))) :
    w.cell? ⟨g, 10 + q * 10, none⟩ = some (.string (recOf (q + 1) b1 b2 b3 b4).name) ∧ w.cell? ⟨g, 10 + q * 10 + 1, none⟩ = some (.bool (recOf (q + 1) b1 b2 b3 b4).auto) ∧ w.cell? ⟨g, 10 + q * 10 + 2, none⟩ = some (.bool (recOf (q + 1) b1 b2 b3 b4).length) ∧ w.cell? ⟨g, 10 + q * 10 + 3, none⟩ = some (.bool (recOf (q + 1) b1 b2 b3 b4).part) ∧ w.cell? ⟨g, 10 + q * 10 + 4, none⟩ = some (.bool (recOf (q + 1) b1 b2 b3 b4).below) ∧ w.cell? ⟨g, 10 + q * 10 + 5, none⟩ = some (.bool (recOf (q + 1) b1 b2 b3 b4).color) ∧ w.cell? ⟨g, 10 + q * 10 + 6, none⟩ = some (.bool (recOf (q + 1) b1 b2 b3 b4).number) ∧ w.cell? ⟨g, 10 + q * 10 + 7, none⟩ = some (.slice (recOf (q + 1) b1 b2 b3 b4).wa (recOf (q + 1) b1 b2 b3 b4).wn (recOf (q + 1) b1 b2 b3 b4).wn) ∧ w.cell? ⟨g, 10 + q * 10 + 8, none⟩ = some (.int .i64 (recOf (q + 1) b1 b2 b3 b4).k) ∧ w.cell? ⟨g, 10 + q * 10 + 9, none⟩ = some (.int .i64 (recOf (q + 1) b1 b2 b3 b4).n) := by
  have hc : ∀ o, w.cell? ⟨g, o, none⟩ = (SA 4 b1 b2 b3 b4)[o]? := fun o => cell_of_row _ _ _ _ _ _ h
  simp only [hc]
  rcases cases26 (by omega : 1 ≤ q + 1) (by omega) with h | h | h | h | h | h | h | h | h | h | h | h | h | h | h | h | h | h | h | h | h | h | h | h | h | h
  all_goals
    obtain rfl := Nat.succ.inj h
    exact ⟨by kernel_rfl, by kernel_rfl, by kernel_rfl, by kernel_rfl, by kernel_rfl, by kernel_rfl, by kernel_rfl, by kernel_rfl, by kernel_rfl, by kernel_rfl⟩
theorem name_recOf (p b1 b2 b3 b4 : Nat) (h1 : 1 ≤ p) (h2 : p ≤ 26) : (recOf p b1 b2 b3 b4).name = (rec0 p).name := by
  rcases cases26 h1 h2 with rfl | rfl | rfl | rfl | rfl | rfl | rfl | rfl | rfl | rfl | rfl | rfl | rfl | rfl | rfl | rfl | rfl | rfl | rfl | rfl | rfl | rfl | rfl | rfl | rfl | rfl <;> rfl
theorem names_len : namesL.length = 26 := rfl
theorem names_at (q : Nat) (h : q < 26) : namesL.getD q ByteArray.empty = (rec0 (q + 1)).name := by
  unfold namesL
  rw [List.getD, List.getElem?_map, List.getElem?_range h]
  rfl
set_option maxHeartbeats 2000000 in
set_option maxRecDepth 100000 in
theorem index38 (s : ByteArray) (g nb b1 b2 b3 b4 : Nat) (w : World) (hg : w.heap[g]? = some (.cells (SA 4 b1 b2 b3 b4) 42 (0, 0))) (hn : w.cell? ⟨nb, 0, none⟩ = some (.string s)) :
    Calls Tryz.prog 27 #[.slice (some ⟨g, 10, none⟩) 26 26, .func (.func 28) #[] #[.pointer (some ⟨nb, 0, none⟩)]] w fun e w' => e = .returned (.int .i64 (propI s)) ∧ Below w.heap.size w w' := by
  have lg := lt_get hg
  have ln := World.block_lt_of_cell? _ _ hn
  go_enter Tryz.func27, Tryz.ntmps27
  go_wp2
  have HG := Lib.hid (And.intro hg hn)
  clear hg hn
  go_loopw [5, 8, 9, 10, 11, 12, 13, 14, 15, 16, 18] (fun _ i _ _ _ _ _ _ _ _ _ wr => ∃ k : Nat, k ≤ 26 ∧ i = .int .i64 k ∧ Hid (∀ j, j < k → namesL.getD j ByteArray.empty ≠ s) ∧ Hid (Below w.heap.size w wr)) (fun _ i _ _ _ _ _ _ _ _ _ _ => 26 - (RowKit.intOf i).toNat)
  case atStart => exact ⟨0, by omega, rfl, Lib.hid (fun j hj => by omega), Lib.hid (Below.refl _ _)⟩
  case round =>
    obtain ⟨k, hk, rfl, N1, B1⟩ := hrel
    by_cases hlt : k < 26
    · have g1 : decide ((k : Int) < 26) = true := decide_eq_true (by omega)
      have hg2 : wr.heap[g]? = some (.cells (SA 4 b1 b2 b3 b4) 42 (0, 0)) := below_of_row B1.out HG.out.1 lg
      have hn2 : wr.cell? ⟨nb, 0, none⟩ = some (.string s) := (B1.out.cell (p := ⟨nb, 0, none⟩) ln).trans HG.out.2
      obtain ⟨a0, a1, a2, a3, a4, a5, a6, a7, a8, a9⟩ := at_SA k hlt b1 b2 b3 b4 g wr hg2
      have hx := prop1C (recOf (k + 1) b1 b2 b3 b4) s nb wr hn2
      have hnm := name_recOf (k + 1) b1 b2 b3 b4 (by omega) (by omega)
      have hat := names_at k hlt
      rw [← hnm] at hat
      clear hg2 hn2 hnm
      generalize recOf (k + 1) b1 b2 b3 b4 = r at a0 a1 a2 a3 a4 a5 a6 a7 a8 a9 hx hat
      by_cases he : r.name = s
      · rw [decide_eq_true he] at hx
        have HE := Lib.hid (show propI s = (k : Int) from by
          have := Lib.idxFromS_hit s namesL k 0 (by rw [names_len]; exact hlt) (hat.trans he) N1.out
          rw [Nat.zero_add] at this
          exact this)
        clear he hat
        go_wp2_with (first | (go_at_call 28; refine (hx).mono ?_; rintro e w' ⟨rfl, hB⟩))
        go_ret
        exact ⟨(show _ = Ending.returned (Value.int .i64 (k : Int)) from rfl).trans (by rw [HE.out]), below_then B1.out B1.out.size hB⟩
      · rw [decide_eq_false he] at hx
        have HE := Lib.hid (show namesL.getD k ByteArray.empty ≠ s from by rw [hat]; exact he)
        clear he hat
        go_wp2_with (first | (go_at_call 28; refine (hx).mono ?_; rintro e w' ⟨rfl, hB⟩))
        exact ⟨⟨k + 1, by omega, by go_num, Lib.hid (fun j hj => by
          by_cases e : j = k
          · rw [e]; exact HE.out
          · exact N1.out j (by omega)), Lib.hid (below_then B1.out B1.out.size hB)⟩, by simp [RowKit.intOf]; omega⟩
    · obtain rfl : k = 26 := by omega
      have HE := Lib.hid (show propI s = -1 from Lib.idxFromS_miss s namesL 0 (by rw [names_len]; exact N1.out))
      go_wp2
      go_ret
      exact ⟨(show _ = Ending.returned (Value.int .i64 (-1)) from rfl).trans (by rw [HE.out]), B1.out⟩
theorem idxFrom_bd (x : ByteArray) : ∀ (zs : List ByteArray) (i : Nat), Lib.idxFromS zs x i = -1 ∨ ((i : Int) ≤ Lib.idxFromS zs x i ∧ Lib.idxFromS zs x i < (i : Int) + zs.length)
  | [], i => by left; simp [Lib.idxFromS]
  | z :: zs, i => by
    by_cases h : z = x
    · right; simp [Lib.idxFromS, h]; omega
    · have := idxFrom_bd x zs (i + 1)
      simp only [Lib.idxFromS, if_neg h, List.length_cons]
      omega
theorem propI_bd (s : ByteArray) : -1 ≤ propI s ∧ propI s < 26 := by
  have := idxFrom_bd s namesL 0
  rw [names_len] at this
  unfold propI Lib.idxOfS
  omega
set_option maxHeartbeats 2000000 in
set_option maxRecDepth 100000 in
theorem propC (s : ByteArray) (w : World) : Calls Tryz.prog 7 #[.string s] w fun e w' => e = .returned (.int .i64 (propV s)) ∧ Below w.heap.size w w' := by
  go_enter Tryz.func7, Tryz.ntmps7
  go_upto_region 2 with (first
    | (go_at_call 26; refine (sortsC _).mono ?_; rintro e w1 ⟨b1, b2, b3, b4, rfl, hS, hb1⟩; clear hS)
    | (refine wpList_store_row rfl 42 _ _ rfl _ (SA 4 b1 b2 b3 b4) rfl rfl 42 z95 (heap_alloc_at _ _ ?_) (info95.trans (congrArg some (size_SA 4 b1 b2 b3 b4 (by omega)).symm)) (size_z95.trans (size_SA 4 b1 b2 b3 b4 (by omega)).symm) (all_SA4 _ _ _ _) ?_; · simp))
  obtain ⟨V, hV⟩ : ∃ V, V = (w1.alloc (Obj.cells Tryz.zeroCells42 42)).setRow w1.heap.size (SA 4 b1 b2 b3 b4) := ⟨_, rfl⟩
  have hsz : w.heap.size < w1.heap.size := by have := hb1.size; rw [alloc_size] at this; omega
  have hg : V.heap[w1.heap.size]? = some (.cells (SA 4 b1 b2 b3 b4) 42 (0, 0)) := by rw [hV]; exact setRow_heap _ _ _ _ _ _ (heap_alloc_new _ _)
  have hn : V.cell? ⟨w.heap.size, 0, none⟩ = some (.string s) := by
    have h0 : (w.alloc (Obj.cells #[.string s] 9)).heap[w.heap.size]? = some (.cells #[.string s] 9 (0, 0)) := heap_alloc_new _ _
    have h1 := below_of_row hb1 h0 (by rw [alloc_size]; omega)
    have h2 : V.heap[w.heap.size]? = some (.cells #[.string s] 9 (0, 0)) := by
      rw [hV, setRow_other _ _ _ _ (by omega), alloc_get, if_neg (by omega)]
      exact h1
    exact (cell_of_row V _ 0 _ _ _ h2).trans rfl
  have p1 : Below w.heap.size w w1 := ((Below.refl _ _).alloc (Nat.le_refl _) _).trans (hb1.mono (by rw [alloc_size]; omega))
  have pV : Below w.heap.size w V := by rw [hV]; exact below_setRow (p1.alloc p1.size _) _ _ p1.size
  rw [← hV]
  clear hV hb1
  have hx := index38 s w1.heap.size w.heap.size b1 b2 b3 b4 V hg hn
  have lg := lt_get hg
  clear hg hn
  obtain ⟨i, hi⟩ : ∃ i, propI s = i := ⟨_, rfl⟩
  have hb : -1 ≤ i ∧ i < 26 := by rw [← hi]; exact propI_bd s
  have HV := Lib.hid (show propV s = max (i + 1) 0 by unfold propV; rw [hi])
  rw [hi] at hx
  clear hi
  go_wp2_with (first | (go_at_call 27; refine (hx).mono ?_; rintro e w' ⟨rfl, hB⟩))
  go_ret
  exact ⟨(show _ = Ending.returned (Value.int .i64 (max (i + 1) 0)) from rfl).trans (by rw [HV.out]), pV.trans (hB.mono pV.size)⟩
end Go.Proofs.Val
