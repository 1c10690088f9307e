/- scrimlaw17.BlockFills of any style and room: true; its text walked; no condition. -/
import Derived.Test.YtmfhhlgjbjbnhaaDoorFlB
import Derived.Test.YtmfhhlgjbjbnhaaDoorAwk
set_option linter.unusedVariables false
set_option linter.unusedSimpArgs false
namespace Go.Proofs
open Go.RowKit Go.Proofs.YtmfhhlgjbjbnhaaDoorW.PrintWords Go.Proofs.YtmfhhlgjbjbnhaaDoor
set_option maxRecDepth 100000 in
set_option maxHeartbeats 4000000 in
theorem fillsC (f : Nat → Int × Int) (room : Int) (w : World) :
    Calls Tryd.prog 3 #[.agg (styA f), .int .i64 room] w fun e w' => e = .returned (.bool true) ∧ Below w.heap.size w w' := by
  have a2 := at_styA f 2 (by omega)
  have a7 := at_styA f 7 (by omega)
  have a5 := at_styA f 5 (by omega)
  go_enter Tryd.func3, Tryd.ntmps3
  go_upto_region 1 with (fail)
  obtain ⟨W, hW⟩ : ∃ W, W = (w.alloc (Obj.cells (styA f) 25)) := ⟨_, rfl⟩
  have hg : W.heap[w.heap.size]? = some (.cells (styA f) 25 (0, 0)) := by rw [hW]; exact heap_alloc_new _ _
  have hB : Below w.heap.size w W := by rw [hW]; exact (Below.refl _ _).alloc (Nat.le_refl _) _
  have hz : w.heap.size < W.heap.size := lt_get hg
  rw [← hW]
  clear hW
  go_upto_region 3 with (go_at_call 7; refine (awake17C _).mono ?_; rintro e w1 ⟨rfl, hb1⟩)
  have hg1 : w1.heap[w.heap.size]? = some (.cells (styA f) 25 (0, 0)) := below_of_row hb1 hg hz
  have p1 : Below w.heap.size w w1 := hB.trans (hb1.mono hB.size)
  clear hb1 hB hz hg
  have lrow : ∀ {W : World}, W.heap[w.heap.size]? = some (.cells (styA f) 25 (0, 0)) → w.heap.size < W.heap.size := fun h => lt_get h
  by_cases hr0 : room < 0
  · have d0 : decide (room < 0) = true := decide_eq_true hr0
    go_wp2_with (first | (refine wpList_load_row rfl 25 _ rfl w.heap.size rfl 25 _ _ _ hg1 Tryd.underlying25 rfl (info56.trans (congrArg some (size_styA _).symm)) ?_) | (go_at_call 8; refine (may17C f _).mono ?_; rintro e w2 ⟨b, rfl, hmay, hb2⟩; have p2 := p1.trans (hb2.mono p1.size); clear hb2 p1 hg1; cases b))
    all_goals go_ret
    all_goals exact ⟨rfl, p2⟩
  have d0 : decide (room < 0) = false := decide_eq_false hr0
  by_cases hr1 : 1099511627776 < room
  · have d1 : decide (1099511627776 < room) = true := decide_eq_true hr1
    go_wp2_with (first | (refine wpList_load_row rfl 25 _ rfl w.heap.size rfl 25 _ _ _ hg1 Tryd.underlying25 rfl (info56.trans (congrArg some (size_styA _).symm)) ?_) | (go_at_call 8; refine (may17C f _).mono ?_; rintro e w2 ⟨b, rfl, hmay, hb2⟩; have p2 := p1.trans (hb2.mono p1.size); clear hb2 p1 hg1; cases b))
    all_goals go_ret
    all_goals exact ⟨rfl, p2⟩
  have d1 : decide (1099511627776 < room) = false := decide_eq_false hr1
  go_upto_if 27 with (first | (refine wpList_load_row rfl 25 _ rfl w.heap.size rfl 25 _ _ _ hg1 Tryd.underlying25 rfl (info56.trans (congrArg some (size_styA _).symm)) ?_) | (go_at_call 8; refine (may17C f _).mono ?_; rintro e w2 ⟨b, rfl, hmay, hb2⟩; have hg2 := below_of_row hb2 hg1 (lrow hg1); have p2 := p1.trans (hb2.mono p1.size); clear hb2 p1 hg1; cases b))
  · go_wp2
    go_ret
    exact ⟨rfl, p2⟩
  have hm2 := hmay trivial 2 (by omega) (by omega)
  clear hmay
  obtain ⟨all, hall⟩ : ∃ x, sumV (acrossL f) = x := ⟨_, rfl⟩
  obtain ⟨eB, heB⟩ : ∃ x, sumB (acrossL f) = x := ⟨_, rfl⟩
  obtain ⟨wV, hwV⟩ : ∃ x, widthV f room = x := ⟨_, rfl⟩
  obtain ⟨fB, hfB⟩ : ∃ x, widthB f room = x := ⟨_, rfl⟩
  obtain ⟨by', hby⟩ : ∃ x, shiftV f room wV = x := ⟨_, rfl⟩
  obtain ⟨gB, hgB⟩ : ∃ x, shiftB f room wV = x := ⟨_, rfl⟩
  have hA := fun w => acrossC f w
  have hW := fun w => widthC f room w
  have hS := fun w => shiftC f room wV w
  simp only [hall, heB] at hA
  simp only [hwV, hfB] at hW
  simp only [hby, hgB] at hS
  have hab := sumV_across_bd f
  have hwb := fills_wide f room hm2
  rw [hall] at hab
  rw [hwV] at hwb
  have c2 : ∀ {W : World}, W.heap[w.heap.size]? = some (.cells (styA f) 25 (0, 0)) → W.cell? ⟨w.heap.size, 4, none⟩ = some (.int .i64 (f 2).1) := fun h => (cell_of_row _ _ _ _ _ _ h).trans a2
  have c7 : ∀ {W : World}, W.heap[w.heap.size]? = some (.cells (styA f) 25 (0, 0)) → W.cell? ⟨w.heap.size, 14, none⟩ = some (.int .i64 (f 7).1) := fun h => (cell_of_row _ _ _ _ _ _ h).trans a7
  have c5 : ∀ {W : World}, W.heap[w.heap.size]? = some (.cells (styA f) 25 (0, 0)) → W.cell? ⟨w.heap.size, 10, none⟩ = some (.int .i64 (f 5).1) := fun h => (cell_of_row _ _ _ _ _ _ h).trans a5
  go_upto_region 6 with (first | (refine wpList_load_row rfl 25 _ rfl w.heap.size rfl 25 _ _ _ hg2 Tryd.underlying25 rfl (info56.trans (congrArg some (size_styA _).symm)) ?_) | (go_at_call 10; refine (ofSC f _).mono ?_; rintro e w3 ⟨rfl, hb3⟩) | (go_at_call 9; refine (hA _).mono ?_; rintro e w4 ⟨rfl, hb4⟩))
  have hg4 := below_of_row hb4 (below_of_row hb3 hg2 (lrow hg2)) (lrow (below_of_row hb3 hg2 (lrow hg2)))
  have p4 := (p2.trans (hb3.mono p2.size)).trans (hb4.mono (p2.trans (hb3.mono p2.size)).size)
  clear hb3 hb4 p2 hg2
  go_upto_region 7 with (first | (refine wpList_load_row rfl 25 _ rfl w.heap.size rfl 25 _ _ _ hg4 Tryd.underlying25 rfl (info56.trans (congrArg some (size_styA _).symm)) ?_) | (go_at_call 11; refine (hW _).mono ?_; rintro e w5 ⟨rfl, hb5⟩))
  have hg5 := below_of_row hb5 hg4 (lrow hg4)
  have p5 := p4.trans (hb5.mono p4.size)
  have k2 := c2 hg5
  clear hb5 p4 hg4
  by_cases h2 : (f 2).1 = 1
  · obtain rfl : true = gB := by rw [← hgB]; unfold shiftB; rw [if_pos (.inl h2)]
    have e2 : ((f 2).1 == 1) = true := by rw [h2]; rfl
    have hau := fills_auto f room h2
    rw [hwV, heB, hfB, hall] at hau
    obtain ⟨n1, n2, n3⟩ := hau
    have dn : decide (wV < 0) = false := decide_eq_false (by omega)
    clear h2 hgB hby hwV hfB heB hall a2 a5 a7 c5 c7 hwb hr0 hr1 hA hW
    cases eB
    · clear n3 hab
      go_wp2_with (first | (refine wpList_load_row rfl 25 _ rfl w.heap.size rfl 25 _ _ _ hg5 Tryd.underlying25 rfl (info56.trans (congrArg some (size_styA _).symm)) ?_) | (go_at_call 12; refine (hS _).mono ?_; rintro e w6 ⟨rfl, hb6⟩; have hg6 := below_of_row hb6 hg5 (lrow hg5); have p6 := p5.trans (hb6.mono p5.size); have k62 := c2 hg6; clear hb6))
      go_ret
      exact ⟨rfl, p6⟩
    cases fB
    · clear n3 hab
      go_wp2_with (first | (refine wpList_load_row rfl 25 _ rfl w.heap.size rfl 25 _ _ _ hg5 Tryd.underlying25 rfl (info56.trans (congrArg some (size_styA _).symm)) ?_) | (go_at_call 12; refine (hS _).mono ?_; rintro e w6 ⟨rfl, hb6⟩; have hg6 := below_of_row hb6 hg5 (lrow hg5); have p6 := p5.trans (hb6.mono p5.size); have k62 := c2 hg6; clear hb6))
      go_ret
      exact ⟨rfl, p6⟩
    by_cases hle : all ≤ room
    · have dl : decide (all ≤ room) = true := decide_eq_true hle
      have hne : (wV + all != room) = false := by rw [n3 rfl rfl hle]; simp
      clear n3
      go_wp2_with (first | (refine wpList_load_row rfl 25 _ rfl w.heap.size rfl 25 _ _ _ hg5 Tryd.underlying25 rfl (info56.trans (congrArg some (size_styA _).symm)) ?_) | (go_at_call 12; refine (hS _).mono ?_; rintro e w6 ⟨rfl, hb6⟩; have hg6 := below_of_row hb6 hg5 (lrow hg5); have p6 := p5.trans (hb6.mono p5.size); have k62 := c2 hg6; clear hb6))
      go_ret
      exact ⟨rfl, p6⟩
    · have dl : decide (all ≤ room) = false := decide_eq_false hle
      clear n3
      go_wp2_with (first | (refine wpList_load_row rfl 25 _ rfl w.heap.size rfl 25 _ _ _ hg5 Tryd.underlying25 rfl (info56.trans (congrArg some (size_styA _).symm)) ?_) | (go_at_call 12; refine (hS _).mono ?_; rintro e w6 ⟨rfl, hb6⟩; have hg6 := below_of_row hb6 hg5 (lrow hg5); have p6 := p5.trans (hb6.mono p5.size); have k62 := c2 hg6; clear hb6))
      go_ret
      exact ⟨rfl, p6⟩
  have e2 : ((f 2).1 == 1) = false := beq_eq_false_iff_ne.2 h2
  cases eB
  · clear hgB hby hwV hfB heB hall a2 a5 a7 c5 c7 hwb hr0 hr1 hA hW
    go_wp2_with (first | (refine wpList_load_row rfl 25 _ rfl w.heap.size rfl 25 _ _ _ hg5 Tryd.underlying25 rfl (info56.trans (congrArg some (size_styA _).symm)) ?_) | (go_at_call 12; refine (hS _).mono ?_; rintro e w6 ⟨rfl, hb6⟩; have hg6 := below_of_row hb6 hg5 (lrow hg5); have p6 := p5.trans (hb6.mono p5.size); have k62 := c2 hg6; clear hb6))
    go_ret
    exact ⟨rfl, p6⟩
  cases fB
  · clear hgB hby hwV hfB heB hall a2 a5 a7 c5 c7 hwb hr0 hr1 hA hW
    go_wp2_with (first | (refine wpList_load_row rfl 25 _ rfl w.heap.size rfl 25 _ _ _ hg5 Tryd.underlying25 rfl (info56.trans (congrArg some (size_styA _).symm)) ?_) | (go_at_call 12; refine (hS _).mono ?_; rintro e w6 ⟨rfl, hb6⟩; have hg6 := below_of_row hb6 hg5 (lrow hg5); have p6 := p5.trans (hb6.mono p5.size); have k62 := c2 hg6; clear hb6))
    go_ret
    exact ⟨rfl, p6⟩
  cases gB
  · clear hgB hby hwV hfB heB hall a2 a5 a7 c5 c7 hwb hr0 hr1 hA hW
    go_wp2_with (first | (refine wpList_load_row rfl 25 _ rfl w.heap.size rfl 25 _ _ _ hg5 Tryd.underlying25 rfl (info56.trans (congrArg some (size_styA _).symm)) ?_) | (go_at_call 12; refine (hS _).mono ?_; rintro e w6 ⟨rfl, hb6⟩; have hg6 := below_of_row hb6 hg5 (lrow hg5); have p6 := p5.trans (hb6.mono p5.size); have k62 := c2 hg6; clear hb6))
    go_ret
    exact ⟨rfl, p6⟩
  obtain ⟨q1, q2⟩ := fills_not f room wV h2 hgB
  rw [hby] at q1
  rw [hby, hall] at q2
  have Q1 := Lib.hid q1
  have Q2 := Lib.hid q2
  clear q1 q2 hgB hby hwV hfB heB hall a2 a5 a7 hA hW h2
  go_upto_if 86 with (first | (refine wpList_load_row rfl 25 _ rfl w.heap.size rfl 25 _ _ _ hg5 Tryd.underlying25 rfl (info56.trans (congrArg some (size_styA _).symm)) ?_) | (go_at_call 12; refine (hS _).mono ?_; rintro e w6 ⟨rfl, hb6⟩; have hg6 := below_of_row hb6 hg5 (lrow hg5); have p6 := p5.trans (hb6.mono p5.size); have k62 := c2 hg6; clear hb6))
  clear hS p5 hg5
  go_upto_region 14 with (first | (refine wpList_load_row rfl 25 _ rfl w.heap.size rfl 25 _ _ _ hg6 Tryd.underlying25 rfl (info56.trans (congrArg some (size_styA _).symm)) ?_) | (go_at_call 10; refine (ofSC f _).mono ?_; rintro e w7 ⟨rfl, hb7⟩) | (refine wpList_store_row rfl 32 _ _ rfl w7.heap.size (sidesV (mgS f 0) (mgS f 1) (mgS f 2) (mgS f 3) (bdS f 0) (bdS f 1) (bdS f 2) (bdS f 3) (pdS f 0) (pdS f 1) (pdS f 2) (pdS f 3)) rfl rfl 32 (sidesV 0 0 0 0 0 0 0 0 0 0 0 0) (heap_alloc_new _ _) (info63.trans rfl) rfl (all_sidesV _ _ _ _ _ _ _ _ _ _ _ _) ?_))
  obtain ⟨V, hV⟩ : ∃ V, V = (w7.alloc (Obj.cells (sidesV 0 0 0 0 0 0 0 0 0 0 0 0) 32)).setRow w7.heap.size (sidesV (mgS f 0) (mgS f 1) (mgS f 2) (mgS f 3) (bdS f 0) (bdS f 1) (bdS f 2) (bdS f 3) (pdS f 0) (pdS f 1) (pdS f 2) (pdS f 3)) := ⟨_, rfl⟩
  have p7 : Below w.heap.size w w7 := p6.trans (hb7.mono p6.size)
  have hg7 := below_of_row hb7 hg6 (lrow hg6)
  have l7 := lrow hg7
  have hs : V.heap[w7.heap.size]? = some (.cells (sidesV (mgS f 0) (mgS f 1) (mgS f 2) (mgS f 3) (bdS f 0) (bdS f 1) (bdS f 2) (bdS f 3) (pdS f 0) (pdS f 1) (pdS f 2) (pdS f 3)) 32 (0, 0)) := by rw [hV]; exact setRow_heap _ _ _ _ _ _ (heap_alloc_new _ _)
  have hgV : V.heap[w.heap.size]? = some (.cells (styA f) 25 (0, 0)) := by rw [hV, setRow_other _ _ _ _ (by omega), alloc_get, if_neg (by omega)]; exact hg7
  have pV : Below w.heap.size w V := by rw [hV]; exact below_setRow (p7.alloc p7.size _) _ _ p7.size
  rw [← hV]
  clear hV hb7 p7 hg7 hg6 p6 l7 k62
  have k7 := c7 hgV
  have k5 := c5 hgV
  have d3 : V.cell? ⟨w7.heap.size, 3, none⟩ = some (.int .i64 (mgS f 3)) := (cell_of_row _ _ _ _ _ _ hs).trans rfl
  have HV := Lib.hid (And.intro hgV pV)
  clear hgV pV hs c2 c7 c5 lrow
  by_cases h7 : (f 7).1 = 1
  · have e7 : ((f 7).1 == 1) = true := by rw [h7]; rfl
    have Q3 := Lib.hid (Q2.out h7)
    clear Q1 Q2 h7
    by_cases hr : room - wV - all ≤ 0
    · have dr : decide (room - wV - all ≤ 0) = true := decide_eq_true hr
      have eby := Q3.out.1 hr
      subst eby
      clear Q3
      go_region
      go_wp2
      all_goals go_ret
      all_goals exact ⟨rfl, HV.out.2.drew⟩
    · have dr : decide (room - wV - all ≤ 0) = false := decide_eq_false hr
      by_cases h5 : (f 5).1 = 1
      · have e5 : ((f 5).1 == 1) = true := by rw [h5]; rfl
        have EB := Lib.hid (Q3.out.2.1 (by omega) h5)
        clear Q3 h5
        go_region
        go_wp2
        all_goals go_ret
        all_goals exact ⟨by rw [EB.out]; simp, HV.out.2.drew⟩
      · have e5 : ((f 5).1 == 1) = false := beq_eq_false_iff_ne.2 h5
        have EB := Lib.hid (Q3.out.2.2 (by omega) h5)
        clear Q3 h5
        go_region
        go_wp2
        all_goals go_ret
        all_goals exact ⟨by rw [EB.out]; simp, HV.out.2.drew⟩
  · have e7 : ((f 7).1 == 1) = false := beq_eq_false_iff_ne.2 h7
    have EB := Lib.hid (Q1.out h7)
    clear Q1 Q2 h7
    go_region
    go_wp2
    all_goals go_ret
    all_goals exact ⟨by rw [EB.out]; simp, HV.out.2.drew⟩
end Go.Proofs
