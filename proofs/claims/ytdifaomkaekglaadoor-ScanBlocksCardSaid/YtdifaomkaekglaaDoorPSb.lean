/- The plain half of ScanBlocks. -/
import Derived.Test.YtdifaomkaekglaaDoorHS7
import Derived.Test.YtdifaomkaekglaaDoorPSt
set_option linter.unusedVariables false
set_option linter.unusedSimpArgs false
namespace Go.Proofs.YtdifaomkaekglaaDoor.Pure
open Go.RowKit Go.Proofs.YtdifaomkaekglaaDoor.HS Go.Proofs.YtdifaomkaekglaaDoorW.PrintWords Go.Proofs.YtdifaomkaekglaaDoorW.PrintLast Go.Proofs.Scn
def goodB (l : List UInt8) : Prop := ∀ c ∈ l, c ≠ 123 ∧ c ≠ 125
structure InvB (bs : List S29) (i : Nat) (x3 : ByteArray) : Prop where
  blocks : ∀ t, (bgo none [] (x3.data.toList ++ t)).map mk29 = bs.take i ++ (bgo none [] t).map mk29
  size : x3.size ≤ 60 * i
def piece (h b : ByteArray) : ByteArray := ((((⟨#[32]⟩ : ByteArray) ++ h) ++ (⟨#[123, 32]⟩ : ByteArray)) ++ b) ++ (⟨#[10, 125]⟩ : ByteArray)
theorem invB_next {bs : List S29} {i : Nat} {x3 : ByteArray} (h : InvB bs i x3) (hi : i < bs.length) (g0 : goodB bs[i].f0.data.toList) (g1 : goodB bs[i].f1.data.toList) (t0 : trimV bs[i].f0 = bs[i].f0) (t1 : trimV bs[i].f1 = bs[i].f1) (hs : bs[i].f0.size + bs[i].f1.size ≤ 50) : InvB bs (i + 1) (x3 ++ piece bs[i].f0 bs[i].f1) := by
  have l1 : (⟨#[32]⟩ : ByteArray).size = 1 := rfl
  have l2 : (⟨#[123, 32]⟩ : ByteArray).size = 2 := rfl
  have l3 : (⟨#[10, 125]⟩ : ByteArray).size = 2 := rfl
  constructor
  · intro t
    have e : (x3 ++ piece bs[i].f0 bs[i].f1).data.toList ++ t = x3.data.toList ++ ((32 :: bs[i].f0.data.toList) ++ 123 :: ((32 :: (bs[i].f1.data.toList ++ [10])) ++ 125 :: t)) := by
      unfold piece
      simp only [ByteArray.data_append, Array.toList_append, List.append_assoc]
      simp
    have a0 : ∀ c ∈ (32 :: bs[i].f0.data.toList), c ≠ 123 ∧ c ≠ 125 := fun c hc => by
      rcases List.mem_cons.1 hc with rfl | hc
      · decide
      · exact g0 c hc
    have a1 : ∀ c ∈ (32 :: (bs[i].f1.data.toList ++ [10])), c ≠ 125 := fun c hc => by
      rcases List.mem_cons.1 hc with rfl | hc
      · decide
      · rcases List.mem_append.1 hc with hc | hc
        · exact (g1 c hc).2
        · rw [List.mem_singleton] at hc
          subst hc
          decide
    have m : mk29 (32 :: bs[i].f0.data.toList, 32 :: (bs[i].f1.data.toList ++ [10])) = bs[i] := by
      unfold mk29
      rw [trim_cons (c := 32) rfl, trim_cons (c := 32) rfl, trim_snoc (c := 10) rfl, ← trimV_ba, ← trimV_ba, t0, t1]
    rw [e, h.blocks, bgo_none_app a0, bgo_open, List.nil_append, bgo_some_app a1, bgo_shut, List.nil_append, List.map_cons, m, List.take_succ_eq_append_getElem hi, List.append_assoc]
    rfl
  · have := h.size
    unfold piece
    simp only [ByteArray.size_append]
    omega
theorem rdS (bs : List S29) {i : Nat} (h : i < bs.length) : rd_T29 bs (i : Int) = bs[i] := by
  unfold rd_T29
  rw [Int.toNat_natCast, List.getD, List.getElem?_eq_getElem h]
  rfl
theorem blocks_same (bs : List S29) (hb : bs.length ≤ 20) : ∀ (d i : Nat), i + d = bs.length → Ev (fun k => scrimlaw07_ScanBlocks.l3 k bs bs (bs.length : Int) (i : Int)) true
  | 0, i, h => Ev.step (f := fun k => some true) (fun k => by rw [scrimlaw07_ScanBlocks.l3, if_neg (by omega)]) (Ev.now _)
  | d + 1, i, h => by
    refine Ev.step (f := fun k => scrimlaw07_ScanBlocks.l3 k bs bs (bs.length : Int) ((i + 1 : Nat) : Int)) (fun k => ?_) (blocks_same bs hb d (i + 1) (by omega))
    rw [scrimlaw07_ScanBlocks.l3, if_pos (by omega), if_pos (by omega), if_pos (by omega), if_pos (by omega), w64s i (by omega)]
    simp
theorem blocks_l (bs : List S29) (hb : bs.length ≤ 20) (hz : ∀ y ∈ bs, y.f0.size ≤ 140737488351232 ∧ y.f1.size ≤ 140737488351232) : ∀ (d i : Nat) (x3 : ByteArray), i + d = bs.length → InvB bs i x3 →
    Ev (fun k => scrimlaw07_ScanBlocks.l0 k bs x3 bs (bs.length : Int) (i : Int)) true
  | 0, i, x3, h, hI => by
    obtain rfl : i = bs.length := by omega
    have e := hI.blocks []
    have hs := hI.size
    rw [List.append_nil, List.take_length, bgo_nil, List.map_nil, List.append_nil] at e
    refine Ev.step (f := fun k => (scan_Blocks.f k x3).bind fun t244 => (if (t244.length : Int) = (bs.length : Int) then (scrimlaw07_ScanBlocks.l3 k bs t244 (bs.length : Int) 0) else (some false))) (fun k => by rw [scrimlaw07_ScanBlocks.l0, if_neg (by omega)]) ?_
    refine Ev.bind ((gBlocks0 x3 (by omega)).eq e) ?_
    simp only [if_true]
    exact blocks_same bs hb bs.length 0 (by omega)
  | d + 1, i, x3, h, hI => by
    have hi : i < bs.length := by omega
    have hr := rdS bs hi
    obtain ⟨z0, z1⟩ := hz _ (List.getElem_mem hi)
    have hw : wrap64 ((bs[i].f0.size : Int) + (bs[i].f1.size : Int)) = (bs[i].f0.size : Int) + (bs[i].f1.size : Int) := w64 (by omega) (by omega)
    by_cases h50 : (bs[i].f0.size : Int) + (bs[i].f1.size : Int) > 50
    · refine Ev.step (f := fun k => some true) (fun k => by rw [scrimlaw07_ScanBlocks.l0, if_pos (by omega), if_pos (by omega), if_pos (by omega), hr, hw, if_pos h50]) (Ev.now _)
    refine Ev.step (f := fun k => scrimlaw07_ScanBlocks.l1 k bs x3 bs (bs.length : Int) (i : Int) [bs[i].f0, bs[i].f1] 2 0 bs[i].f0 bs[i].f1) (fun k => by rw [scrimlaw07_ScanBlocks.l0, if_pos (by omega), if_pos (by omega), if_pos (by omega), hr, hw, if_neg h50]; rfl) ?_
    -- the loop over the bytes of one of the two
    have scan : ∀ (s : ByteArray) (x36 : Int), s.size ≤ 50 → (goodB s.data.toList → trimV s = s → Ev (fun k => scrimlaw07_ScanBlocks.l1 k bs x3 bs (bs.length : Int) (i : Int) [bs[i].f0, bs[i].f1] 2 (wrap64 (x36 + 1)) bs[i].f0 bs[i].f1) true) →
        ∀ (l : List UInt8) (j : Nat), s.data.toList.drop j = l → j ≤ s.size → goodB (s.data.toList.take j) → Ev (fun k => scrimlaw07_ScanBlocks.l2 k bs x3 s (j : Int) bs (bs.length : Int) (i : Int) [bs[i].f0, bs[i].f1] 2 x36 bs[i].f0 bs[i].f1) true := by
      intro s x36 hs hk l
      induction l with
      | nil =>
        intro j hj hjs hg
        have hje := drop_end hj
        rw [List.take_of_length_le (by rw [← sz]; omega)] at hg
        by_cases ht : trimV s = s
        · refine Ev.step (fun k => ?_) (hk hg ht)
          rw [scrimlaw07_ScanBlocks.l2, if_neg (by omega), iTrim s (by omega), Option.bind_some, if_pos (by rw [ht])]
        · refine Ev.step (f := fun k => some true) (fun k => ?_) (Ev.now _)
          rw [scrimlaw07_ScanBlocks.l2, if_neg (by omega), iTrim s (by omega), Option.bind_some, if_neg (fun e => ht (toL_inj e))]
      | cons c t ih =>
        intro j hj hjs hg
        obtain ⟨g1, g2, g3⟩ := drop_at hj
        by_cases c1 : (c.toNat : Int) = 123
        · exact Ev.step (f := fun k => some true) (fun k => by rw [scrimlaw07_ScanBlocks.l2, if_pos (by omega), if_pos (by omega), g2, if_pos c1]) (Ev.now _)
        by_cases c2 : (c.toNat : Int) = 125
        · exact Ev.step (f := fun k => some true) (fun k => by rw [scrimlaw07_ScanBlocks.l2, if_pos (by omega), if_pos (by omega), g2, if_neg c1, if_pos c2]) (Ev.now _)
        refine Ev.step (f := fun k => scrimlaw07_ScanBlocks.l2 k bs x3 s ((j + 1 : Nat) : Int) bs (bs.length : Int) (i : Int) [bs[i].f0, bs[i].f1] 2 x36 bs[i].f0 bs[i].f1) (fun k => by rw [scrimlaw07_ScanBlocks.l2, if_pos (by omega), if_pos (by omega), g2, if_neg c1, if_neg c2, w64s j (by omega)]) (ih (j + 1) g3 (by omega) ?_)
        have e := take_next (l := s.data.toList) (a := 0) hj (Nat.zero_le _)
        simp only [List.drop_zero, Nat.sub_zero] at e
        rw [e]
        intro x hx
        rcases List.mem_append.1 hx with hx | hx
        · exact hg x hx
        · rw [List.mem_singleton] at hx
          subst hx
          exact ⟨fun e => c1 (by rw [e]; rfl), fun e => c2 (by rw [e]; rfl)⟩
    have last : goodB bs[i].f0.data.toList → trimV bs[i].f0 = bs[i].f0 → goodB bs[i].f1.data.toList → trimV bs[i].f1 = bs[i].f1 → Ev (fun k => scrimlaw07_ScanBlocks.l1 k bs x3 bs (bs.length : Int) (i : Int) [bs[i].f0, bs[i].f1] 2 2 bs[i].f0 bs[i].f1) true := by
      intro p0 q0 p1 q1
      have l1 : (⟨#[32]⟩ : ByteArray).size = 1 := rfl
      have l2 : (⟨#[123, 32]⟩ : ByteArray).size = 2 := rfl
      have l3 : (⟨#[10, 125]⟩ : ByteArray).size = 2 := rfl
      have hs := hI.size
      refine Ev.step (f := fun k => scrimlaw07_ScanBlocks.l0 k bs (x3 ++ piece bs[i].f0 bs[i].f1) bs (bs.length : Int) ((i + 1 : Nat) : Int)) (fun k => ?_) (blocks_l bs hb hz d (i + 1) _ (by omega) (invB_next hI hi p0 p1 q0 q1 (by omega)))
      rw [scrimlaw07_ScanBlocks.l1, if_neg (by decide), if_pos (by omega), if_pos (by simp only [ByteArray.size_append]; omega), if_pos (by simp only [ByteArray.size_append]; omega), if_pos (by simp only [ByteArray.size_append]; omega), if_pos (by simp only [ByteArray.size_append]; omega), w64s i (by omega)]
      rfl
    have step0 : Ev (fun k => scrimlaw07_ScanBlocks.l2 k bs x3 bs[i].f0 ((0 : Nat) : Int) bs (bs.length : Int) (i : Int) [bs[i].f0, bs[i].f1] 2 0 bs[i].f0 bs[i].f1) true := by
      refine scan bs[i].f0 0 (by omega) (fun p0 q0 => ?_) _ 0 rfl (Nat.zero_le _) (by intro c hc; simp at hc)
      refine Ev.step (f := fun k => scrimlaw07_ScanBlocks.l2 k bs x3 bs[i].f1 ((0 : Nat) : Int) bs (bs.length : Int) (i : Int) [bs[i].f0, bs[i].f1] 2 1 bs[i].f0 bs[i].f1) (fun k => ?_) ?_
      · rw [show wrap64 (0 + 1) = 1 from w64 (by omega) (by omega), scrimlaw07_ScanBlocks.l1, if_pos (by decide), if_pos (by decide), if_pos (by simp)]
        rfl
      · refine scan bs[i].f1 1 (by omega) (fun p1 q1 => ?_) _ 0 rfl (Nat.zero_le _) (by intro c hc; simp at hc)
        rw [show wrap64 (1 + 1) = 2 from w64 (by omega) (by omega)]
        exact last p0 q0 p1 q1
    refine Ev.step (fun k => ?_) step0
    rw [scrimlaw07_ScanBlocks.l1, if_pos (by decide), if_pos (by decide), if_pos (by simp)]
    rfl
theorem ScanBlocks (bs : List S29) (hz : ∀ y ∈ bs, y.f0.size ≤ 140737488351232 ∧ y.f1.size ≤ 140737488351232) : ∃ k, scrimlaw07_ScanBlocks.f k bs = some true := by
  refine Ev.rounds (g := fun k => scrimlaw07_ScanBlocks.f k bs) ?_
  unfold scrimlaw07_ScanBlocks.f
  refine Ev.bind awake ?_
  simp only [if_true]
  by_cases h1 : (bs.length : Int) > 20
  · simp only [if_pos h1]; exact Ev.now _
  simp only [if_neg h1]
  exact blocks_l bs (by omega) hz bs.length 0 _ (by omega) ⟨fun t => by simp, Nat.zero_le _⟩
end Go.Proofs.YtdifaomkaekglaaDoor.Pure
