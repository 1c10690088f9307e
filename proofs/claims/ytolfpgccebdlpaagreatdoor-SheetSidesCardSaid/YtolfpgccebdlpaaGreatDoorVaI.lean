/- value.Read of any property and text: its contract, proved by walking its text; no condition beside those that the theorem states. -/
import Derived.Test.YtolfpgccebdlpaaGreatDoorVaG
import Derived.Deep.RegionHeld3
import Derived.Test.YtolfpgccebdlpaaGreatDoorPrn
import Derived.Test.YtolfpgccebdlpaaGreatDoorMys
set_option linter.unusedVariables false
set_option linter.unusedSimpArgs false
namespace Go.Proofs.Val
open Go.RowKit Go.Proofs Go.Proofs.YtolfpgccebdlpaaGreatDoorW.PrintWords
def anyP (p : Nat) (l : List UInt8) : (Int × Int) × Bool := anyR (rec0 p).auto (rec0 p).length (rec0 p).part (rec0 p).color (rec0 p).number (wordsP p) l
def readL (p : Nat) (u : List UInt8) : (Int × Int) × Bool := if ((anyP p u).2 && mayV p (anyP p u).1.1 (anyP p u).1.2) = true then ((anyP p u).1, true) else ((0, 0), false)
def readV (p : Int) (s : ByteArray) : (Int × Int) × Bool := readL (cl p) (Scn.lowV (Scn.trimV s)).data.toList
theorem wordsP_le (p : Nat) : (wordsP p).length ≤ 4 := by
  unfold wordsP
  split
  · simp
  split
  · simp
  split
  · simp
  split <;> simp
theorem trimV_size (s : ByteArray) : (Scn.trimV s).size ≤ s.size := by
  show (Lib.trimS s.data.toList [32, 9, 10, 13]).length ≤ _
  rw [Lib.size_eq]
  unfold Lib.trimS Lib.trimLeftS Lib.trimRightS
  have h1 := (List.dropWhile_sublist (l := (s.data.toList.reverse.dropWhile (([32, 9, 10, 13] : List UInt8).contains ·)).reverse) (([32, 9, 10, 13] : List UInt8).contains ·)).length_le
  have h2 := (List.dropWhile_sublist (l := s.data.toList.reverse) (([32, 9, 10, 13] : List UInt8).contains ·)).length_le
  rw [List.length_reverse] at h1 h2
  omega
theorem lowV_size (s : ByteArray) : (Scn.lowV s).size = s.size := by
  show (s.data.toList.map Scn.lowB).length = _
  rw [List.length_map, Lib.size_eq]
set_option maxHeartbeats 8000000 in
set_option maxRecDepth 100000 in
theorem readC (p : Int) (s : ByteArray) (w : World) (hs : s.size < 4294967281) :
    Calls Tryz.prog 108 #[.int .i64 p, .string s] w fun e w' => e = .returned (.tuple #[.agg #[.int .i64 (readV p s).1.1, .int .i64 (readV p s).1.2], .bool (readV p s).2]) ∧ Below w.heap.size w w' := by
  have hO := fun w => ofP p w
  have hR := Lib.hid (show readV p s = if ((anyP (cl p) (Scn.lowV (Scn.trimV s)).data.toList).2 && mayV (cl p) (anyP (cl p) (Scn.lowV (Scn.trimV s)).data.toList).1.1 (anyP (cl p) (Scn.lowV (Scn.trimV s)).data.toList).1.2) = true then ((anyP (cl p) (Scn.lowV (Scn.trimV s)).data.toList).1, true) else ((0, 0), false) from rfl)
  have hT := fun w => Scn.trim_any s w hs
  have hts := trimV_size s
  have hL := fun w => Scn.lower_any (Scn.trimV s) w (by omega)
  have hls := lowV_size (Scn.trimV s)
  obtain ⟨tr, htr⟩ : ∃ tr, Scn.trimV s = tr := ⟨_, rfl⟩
  rw [htr] at hR hts hls
  simp only [htr] at hT hL
  obtain ⟨u, hu⟩ : ∃ u, Scn.lowV tr = u := ⟨_, rfl⟩
  rw [hu] at hR hls
  simp only [hu] at hL
  have hA := fun nm be wa kk nn w hw => anyC nm (rec0 (cl p)).auto (rec0 (cl p)).length (rec0 (cl p)).part be (rec0 (cl p)).color (rec0 (cl p)).number wa (wordsP (cl p)) kk nn u.data.toList w hw (wordsP_le _) (by rw [← Lib.size_eq]; omega)
  have hM := fun k n w => mayP p k n w
  have hwl := wordsP_len (cl p) (cl_le p)
  have hrec : ∀ wa, recV (recA (cl p) wa) = .agg #[.string (rec0 (cl p)).name, .bool (rec0 (cl p)).auto, .bool (rec0 (cl p)).length, .bool (rec0 (cl p)).part, .bool (rec0 (cl p)).below, .bool (rec0 (cl p)).color, .bool (rec0 (cl p)).number, .slice wa (wordsP (cl p)).length (wordsP (cl p)).length, .int .i64 (rec0 (cl p)).k, .int .i64 (rec0 (cl p)).n] := by
    intro wa
    rw [← hwl]
    rfl
  simp only [hrec] at hO
  change Hid (_ = if ((anyP (cl p) u.data.toList).2 && _) = true then _ else _) at hR
  have hAe : ∀ l, anyR (rec0 (cl p)).auto (rec0 (cl p)).length (rec0 (cl p)).part (rec0 (cl p)).color (rec0 (cl p)).number (wordsP (cl p)) l = anyP (cl p) l := fun l => rfl
  simp only [hAe] at hA
  have hue : (⟨u.data.toList.toArray⟩ : ByteArray) = u := by cases u; simp
  simp only [hue] at hA
  obtain ⟨⟨⟨a, b⟩, c⟩, hr⟩ : ∃ r, anyP (cl p) u.data.toList = r := ⟨_, rfl⟩
  rw [hr] at hR
  simp only [hr] at hA
  obtain ⟨m, hm⟩ : ∃ m, mayV (cl p) a b = m := ⟨_, rfl⟩
  have hM2 := fun w => hM a b w
  simp only [hm] at hM2 hR
  generalize (rec0 (cl p)).name = nm at hO
  generalize (rec0 (cl p)).auto = au at hO hA
  generalize (rec0 (cl p)).length = le at hO hA
  generalize (rec0 (cl p)).part = pa at hO hA
  generalize (rec0 (cl p)).below = be at hO
  generalize (rec0 (cl p)).color = co at hO hA
  generalize (rec0 (cl p)).number = nu at hO hA
  generalize (rec0 (cl p)).k = kk at hO
  generalize (rec0 (cl p)).n = nn at hO
  generalize decide (1 ≤ p ∧ p ≤ 26) = inB at hO
  generalize wordsP (cl p) = ws at hO hA hwl
  have HA := Lib.hid hA
  have HMM := Lib.hid hM2
  clear hA hM hM2 hwl hrec hAe hue hr hm hs hu htr hts hls
  go_enter Tryz.func108, Tryz.ntmps108
  go_upto_region 2 with (first | (go_at_call 116; refine (hO _).mono ?_; rintro e w1 ⟨wa, rfl, hS, hB⟩; obtain ⟨hc, hf⟩ := bcell hB; have hz : w.heap.size < w1.heap.size := (by have hs := hB.size; rw [alloc_size] at hs; omega)))
  obtain ⟨W1, hW1⟩ : ∃ W1, w1.alloc (Obj.cells #[.string nm, .bool au, .bool le, .bool pa, .bool be, .bool co, .bool nu, .slice wa ws.length ws.length, .int .i64 kk, .int .i64 nn] 163) = W1 := ⟨_, rfl⟩
  have hg : W1.heap[w1.heap.size]? = some (.cells #[.string nm, .bool au, .bool le, .bool pa, .bool be, .bool co, .bool nu, .slice wa ws.length ws.length, .int .i64 kk, .int .i64 nn] 163 (0, 0)) := by rw [← hW1]; exact heap_alloc_new _ _
  have HS1 := Lib.hid (show WordsIn W1 wa ws by rw [← hW1]; exact hS.below (below_alloc (Below.refl _ _) _))
  have p1 : Below w.heap.size w w1 := ((Below.refl _ _).alloc (Nat.le_refl _) _).trans (hB.mono (by rw [alloc_size]; omega))
  have P1 := Lib.hid (show Below w.heap.size w W1 by rw [← hW1]; exact below_alloc p1 _)
  have hcell4 : W1.cell? ⟨w.heap.size, 0, none⟩ = some (.int .i64 0) ∧ W1.cell? ⟨w.heap.size, 1, none⟩ = some (.int .i64 0) := by
    have h0 : w1.heap[w.heap.size]? = some (.cells #[.int .i64 0, .int .i64 0] 109 (0, 0)) := (hB.block w.heap.size (by rw [alloc_size]; omega)).trans (heap_alloc_new _ _)
    have h1 : W1.heap[w.heap.size]? = some (.cells #[.int .i64 0, .int .i64 0] 109 (0, 0)) := by rw [← hW1]; exact (heap_alloc_old _ _ hz).trans h0
    exact ⟨(cell_of_row _ _ _ _ _ _ h1).trans rfl, (cell_of_row _ _ _ _ _ _ h1).trans rfl⟩
  rw [hW1]
  have hfz : W1.frozen? ⟨w.heap.size, 0, none⟩ = false ∧ W1.frozen? ⟨w.heap.size, 1, none⟩ = false := by
    have h0 : ∀ o, w1.frozen? ⟨w.heap.size, o, none⟩ = false := fun o => (hf w.heap.size o (by rw [alloc_size]; omega)).trans (World.frozen?_alloc_at _ _ _ _ rfl)
    have h1 : ∀ o, W1.frozen? ⟨w.heap.size, o, none⟩ = false := fun o => by rw [← hW1]; exact (World.frozen?_alloc_past _ _ _ hz).trans (h0 o)
    exact ⟨h1 0, h1 1⟩
  obtain ⟨g, hgg⟩ : ∃ g, w1.heap.size = g := ⟨_, rfl⟩
  have hg4 : w.heap.size < W1.heap.size := by rw [← hW1, alloc_size]; omega
  rw [hgg] at hg ⊢
  have hgl := lt_get hg
  have HK := Lib.hid (show ∀ W, Below W1.heap.size W1 W → (W.cell? ⟨g, 0, none⟩ = some (.string nm) ∧ W.cell? ⟨g, 1, none⟩ = some (.bool au) ∧ W.cell? ⟨g, 2, none⟩ = some (.bool le) ∧ W.cell? ⟨g, 3, none⟩ = some (.bool pa) ∧ W.cell? ⟨g, 4, none⟩ = some (.bool be) ∧ W.cell? ⟨g, 5, none⟩ = some (.bool co) ∧ W.cell? ⟨g, 6, none⟩ = some (.bool nu) ∧ W.cell? ⟨g, 7, none⟩ = some (.slice wa ws.length ws.length) ∧ W.cell? ⟨g, 8, none⟩ = some (.int .i64 kk) ∧ W.cell? ⟨g, 9, none⟩ = some (.int .i64 nn)) from fun W hW => by
    have h := (hW.block g hgl).trans hg
    exact ⟨(cell_of_row _ _ _ _ _ _ h).trans rfl, (cell_of_row _ _ _ _ _ _ h).trans rfl, (cell_of_row _ _ _ _ _ _ h).trans rfl, (cell_of_row _ _ _ _ _ _ h).trans rfl, (cell_of_row _ _ _ _ _ _ h).trans rfl, (cell_of_row _ _ _ _ _ _ h).trans rfl, (cell_of_row _ _ _ _ _ _ h).trans rfl, (cell_of_row _ _ _ _ _ _ h).trans rfl, (cell_of_row _ _ _ _ _ _ h).trans rfl, (cell_of_row _ _ _ _ _ _ h).trans rfl⟩)
  obtain ⟨c0, c1, c2, c3, c4, c5, c6, c7, c8, c9⟩ := HK.out W1 (Below.refl _ _)
  clear hg hW1 hS p1 hB hgg hO
  have HK2 := Lib.hid (show ∀ W, Below W1.heap.size W1 W → (Below W1.heap.size W1 W ∧ W.cell? ⟨g, 0, none⟩ = some (.string nm) ∧ W.cell? ⟨g, 1, none⟩ = some (.bool au) ∧ W.cell? ⟨g, 2, none⟩ = some (.bool le) ∧ W.cell? ⟨g, 3, none⟩ = some (.bool pa) ∧ W.cell? ⟨g, 4, none⟩ = some (.bool be) ∧ W.cell? ⟨g, 5, none⟩ = some (.bool co) ∧ W.cell? ⟨g, 6, none⟩ = some (.bool nu) ∧ W.cell? ⟨g, 7, none⟩ = some (.slice wa ws.length ws.length) ∧ W.cell? ⟨g, 8, none⟩ = some (.int .i64 kk) ∧ W.cell? ⟨g, 9, none⟩ = some (.int .i64 nn)) from fun W hW => ⟨hW, HK.out W hW⟩)
  have hB0 : Below W1.heap.size W1 W1 := Below.refl _ _
  have hKeep := HK2.out
  clear HK2 HK
  go_region_held3 (fun W => Below W1.heap.size W1 W ∧ W.cell? ⟨g, 0, none⟩ = some (.string nm) ∧ W.cell? ⟨g, 1, none⟩ = some (.bool au) ∧ W.cell? ⟨g, 2, none⟩ = some (.bool le) ∧ W.cell? ⟨g, 3, none⟩ = some (.bool pa) ∧ W.cell? ⟨g, 4, none⟩ = some (.bool be) ∧ W.cell? ⟨g, 5, none⟩ = some (.bool co) ∧ W.cell? ⟨g, 6, none⟩ = some (.bool nu) ∧ W.cell? ⟨g, 7, none⟩ = some (.slice wa ws.length ws.length) ∧ W.cell? ⟨g, 8, none⟩ = some (.int .i64 kk) ∧ W.cell? ⟨g, 9, none⟩ = some (.int .i64 nn))
    (first | exact hKeep _ (below_drew1 hB0) | exact hKeep _ (below_alloc (below_drew1 hB0) _) | exact hKeep _ b4 | exact hKeep _ (below_alloc b4 _) | exact hKeep _ b3 | exact hKeep _ (below_alloc b3 _) | exact hKeep _ b2 | exact hKeep _ (below_alloc b2 _) | exact hKeep _ ((b4.setCell (by exact b3.size) _).setCell (by exact b3.size) _) | exact hKeep _ ((b4.setCell (by exact b2.size) _).setCell (by exact b2.size) _) | exact hKeep _ ((b4.setCell (by exact Nat.le_refl _) _).setCell (by exact Nat.le_refl _) _) | exact hKeep _ (((below_alloc b4 _).setCell (by exact b4.size) _).setCell (by exact b4.size) _) | go_keep)
    ((first
    | (go_at_call 91; refine (hT _).mono ?_; rintro e w2 ⟨rfl, hB2⟩; have b2 : Below W1.heap.size W1 w2 := (by first | exact below_then (below_drew1 hB0) (Nat.le_refl _) hB2 | exact below_then (below_alloc (below_drew1 hB0) _) (below_alloc (below_drew1 hB0) _).size hB2); obtain ⟨hc2, hf2⟩ := bcell hB2; (try have z2 : W1.heap.size < w2.heap.size := (by have q : (W1.alloc (Obj.cells #[.int .i64 0, .int .i64 0] 109)).heap.size ≤ w2.heap.size := hB2.size; rw [alloc_size] at q; exact q)))
    | (go_at_call 41; refine (hL _).mono ?_; rintro e w3 ⟨rfl, hB3⟩; have b3 : Below W1.heap.size W1 w3 := (by first | exact below_then b2 b2.size hB3 | exact below_then (below_alloc b2 _) (below_alloc b2 _).size hB3); obtain ⟨hc3, hf3⟩ := bcell hB3; (try have z3 : w2.heap.size < w3.heap.size := (by have q := hB3.size; rw [alloc_size] at q; exact q)); (try have yz23 : W1.heap.size < w3.heap.size := Nat.lt_of_lt_of_le z2 hB3.size))
    | (go_at_call 145; refine (HA.out _ _ _ _ _ _ (by first | exact HS1.out.below b3 | exact HS1.out.below (below_alloc b3 _))).mono ?_; rintro e w4 ⟨rfl, hB4⟩; have b4 : Below W1.heap.size W1 w4 := (by first | exact below_then b3 b3.size hB4 | exact below_then (below_alloc b3 _) (below_alloc b3 _).size hB4); obtain ⟨hc4, hf4⟩ := bcell hB4; (try have z4 : w3.heap.size < w4.heap.size := (by have q := hB4.size; rw [alloc_size] at q; exact q)); (try have yz34 : w2.heap.size < w4.heap.size := Nat.lt_of_lt_of_le z3 hB4.size); (try have yyz234 : W1.heap.size < w4.heap.size := Nat.lt_of_lt_of_le yz23 hB4.size))))
  all_goals
    have s2 : w.heap.size < w2.heap.size := Nat.lt_of_lt_of_le hg4 b2.size
    have s3 : w.heap.size < w3.heap.size := Nat.lt_of_lt_of_le hg4 b3.size
    have s4 : w.heap.size < w4.heap.size := Nat.lt_of_lt_of_le hg4 b4.size
    have P4 := Lib.hid (below_then P1.out P1.out.size b4)
    have k40 : w4.cell? ⟨w.heap.size, 0, none⟩ = some (.int .i64 0) := (b4.cell (p := ⟨w.heap.size, 0, none⟩) hg4).trans hcell4.1
    have k41 : w4.cell? ⟨w.heap.size, 1, none⟩ = some (.int .i64 0) := (b4.cell (p := ⟨w.heap.size, 1, none⟩) hg4).trans hcell4.2
    have f40 : w4.frozen? ⟨w.heap.size, 0, none⟩ = false := (b4.frozen (p := ⟨w.heap.size, 0, none⟩) hg4).trans hfz.1
    have f41 : w4.frozen? ⟨w.heap.size, 1, none⟩ = false := (b4.frozen (p := ⟨w.heap.size, 1, none⟩) hg4).trans hfz.2
    try have t30 : w4.cell? ⟨w3.heap.size, 0, none⟩ = some (.int .i64 0) := by rw [hc4 _ _ (by rw [alloc_size]; omega)]; exact cell_of_row _ _ _ _ _ _ (heap_alloc_new _ _)
    try have t20 : w4.cell? ⟨w2.heap.size, 0, none⟩ = some (.int .i64 0) := by rw [hc4 _ _ z3, hc3 _ _ (by rw [alloc_size]; omega)]; exact cell_of_row _ _ _ _ _ _ (heap_alloc_new _ _)
    try have t10 : w4.cell? ⟨W1.heap.size, 0, none⟩ = some (.int .i64 0) := by rw [hc4 _ _ yz23, hc3 _ _ z2, hc2 _ _ (by show W1.heap.size < (W1.alloc _).heap.size; rw [alloc_size]; omega)]; exact cell_of_row _ _ _ _ _ _ (heap_alloc_new W1 _)
    try have t31 : w4.cell? ⟨w3.heap.size, 1, none⟩ = some (.int .i64 0) := by rw [hc4 _ _ (by rw [alloc_size]; omega)]; exact cell_of_row _ _ _ _ _ _ (heap_alloc_new _ _)
    try have t21 : w4.cell? ⟨w2.heap.size, 1, none⟩ = some (.int .i64 0) := by rw [hc4 _ _ z3, hc3 _ _ (by rw [alloc_size]; omega)]; exact cell_of_row _ _ _ _ _ _ (heap_alloc_new _ _)
    try have t11 : w4.cell? ⟨W1.heap.size, 1, none⟩ = some (.int .i64 0) := by rw [hc4 _ _ yz23, hc3 _ _ z2, hc2 _ _ (by show W1.heap.size < (W1.alloc _).heap.size; rw [alloc_size]; omega)]; exact cell_of_row _ _ _ _ _ _ (heap_alloc_new W1 _)
    clear hcell4 hfz hKeep hc hf hz HS1 P1 b2 b3 hc2 hc3 hc4 hf2 hf3 hf4 c0 c1 c2 c3 c4 c5 c6 c7 c8 c9
    cases c with
    | false =>
      have HK := Lib.hid (show readV p s = ((0, 0), false) from hR.out)
      clear hR
      go_wp2
      refine bodyPost_ret (v := .tuple #[.agg #[.int .i64 0, .int .i64 0], .bool false]) (by simp [results, Tryz.results108, go_sem, k40, k41, s4, s3, s2, hg4, Nat.ne_of_gt s4, Nat.ne_of_gt s3, Nat.ne_of_gt s2, Nat.ne_of_gt hg4, Nat.ne_of_lt s4, Nat.ne_of_lt s3, Nat.ne_of_lt s2, Nat.ne_of_lt hg4]) rfl ⟨(show _ = Ending.returned (Value.tuple #[.agg #[.int .i64 0, .int .i64 0], .bool false]) from rfl).trans (by rw [HK.out]), ?_⟩
      first | exact ((below_alloc P4.out _).setCell (by simp) _).setCell (by simp) _ | exact (((P4.out.setCell (by simp; omega) _).setCell (by simp; omega) _).setCell (by simp) _).setCell (by simp) _ | exact below_alloc ((P4.out.setCell (by simp) _).setCell (by simp) _) _
    | true =>
      cases m with
      | false =>
        have HK := Lib.hid (show readV p s = ((0, 0), false) from hR.out)
        clear hR
        go_wp2_with (go_at_call 74; refine (HMM.out _).mono ?_; rintro e w5 ⟨rfl, hB5⟩; obtain ⟨hc5, hf5⟩ := bcell hB5; have s5 : w.heap.size < w5.heap.size := (by have q := hB5.size; simp at q; omega); have k50 : w5.cell? ⟨w.heap.size, 0, none⟩ = some (.int .i64 0) := (by rw [hc5 _ _ (by simp; omega)]; simp [k40, s4, go_sem, Nat.ne_of_gt s4, Nat.ne_of_gt s3, Nat.ne_of_gt s2, Nat.ne_of_gt hg4, Nat.ne_of_lt s4, Nat.ne_of_lt s3, Nat.ne_of_lt s2, Nat.ne_of_lt hg4]); have k51 : w5.cell? ⟨w.heap.size, 1, none⟩ = some (.int .i64 0) := (by rw [hc5 _ _ (by simp; omega)]; simp [k41, s4, go_sem, Nat.ne_of_gt s4, Nat.ne_of_gt s3, Nat.ne_of_gt s2, Nat.ne_of_gt hg4, Nat.ne_of_lt s4, Nat.ne_of_lt s3, Nat.ne_of_lt s2, Nat.ne_of_lt hg4]))
        refine bodyPost_ret (v := .tuple #[.agg #[.int .i64 0, .int .i64 0], .bool false]) (by simp [results, Tryz.results108, go_sem, k50, k51, s5]) rfl ⟨(show _ = Ending.returned (Value.tuple #[.agg #[.int .i64 0, .int .i64 0], .bool false]) from rfl).trans (by rw [HK.out]), ?_⟩
        exact ((below_then (by first | exact below_alloc P4.out _ | exact (P4.out.setCell (by simp; omega) _).setCell (by simp; omega) _) (by first | exact (below_alloc P4.out _).size | (simp; omega)) hB5).setCell (by exact Nat.le_refl _) _).setCell (by exact Nat.le_refl _) _
      | true =>
        have HK := Lib.hid (show readV p s = ((a, b), true) from hR.out)
        clear hR
        go_wp2_with (go_at_call 74; refine (HMM.out _).mono ?_; rintro e w5 ⟨rfl, hB5⟩; obtain ⟨hc5, hf5⟩ := bcell hB5; have s5 : w.heap.size < w5.heap.size := (by have q := hB5.size; simp at q; omega); have k50 : w5.cell? ⟨w.heap.size, 0, none⟩ = some (.int .i64 0) := (by rw [hc5 _ _ (by simp; omega)]; simp [k40, s4, go_sem, Nat.ne_of_gt s4, Nat.ne_of_gt s3, Nat.ne_of_gt s2, Nat.ne_of_gt hg4, Nat.ne_of_lt s4, Nat.ne_of_lt s3, Nat.ne_of_lt s2, Nat.ne_of_lt hg4]); have k51 : w5.cell? ⟨w.heap.size, 1, none⟩ = some (.int .i64 0) := (by rw [hc5 _ _ (by simp; omega)]; simp [k41, s4, go_sem, Nat.ne_of_gt s4, Nat.ne_of_gt s3, Nat.ne_of_gt s2, Nat.ne_of_gt hg4, Nat.ne_of_lt s4, Nat.ne_of_lt s3, Nat.ne_of_lt s2, Nat.ne_of_lt hg4]))
        refine bodyPost_ret (v := .tuple #[.agg #[.int .i64 a, .int .i64 b], .bool true]) (by simp [results, Tryz.results108, go_sem, k50, k51, s5]) rfl ⟨(show _ = Ending.returned (Value.tuple #[.agg #[.int .i64 a, .int .i64 b], .bool true]) from rfl).trans (by rw [HK.out]), ?_⟩
        exact ((below_then (by first | exact below_alloc P4.out _ | exact (P4.out.setCell (by simp; omega) _).setCell (by simp; omega) _) (by first | exact (below_alloc P4.out _).size | (simp; omega)) hB5).setCell (by exact Nat.le_refl _) _).setCell (by exact Nat.le_refl _) _
end Go.Proofs.Val
set_option linter.unusedVariables false
set_option linter.unusedSimpArgs false
namespace Go.Proofs.Val
open Go.RowKit Go.Proofs Go.Proofs.YtolfpgccebdlpaaGreatDoorW.PrintWords
def printL (p : Nat) (k n : Int) : List UInt8 :=
  if mayV p k n = true then
    (if k = 1 then autoW else if k = 4 then 35 :: hexL n.toNat else if k = 5 then ((wordsP p).getD n.toNat ByteArray.empty).data.toList
      else if k = 2 then decL n ++ [112, 120] else if k = 3 then decL n ++ [37] else decL n)
  else []
def printV (p k n : Int) : ByteArray := ⟨(printL (cl p) k n).toArray⟩
theorem low_ge (p : Nat) : -63999999999 ≤ lowV p := by unfold lowV; split <;> omega
theorem may_kinds {p : Nat} {k n : Int} (h : mayV p k n = true) :
    (k = 1 ∧ n = 0 ∧ (rec0 p).auto = true) ∨ (k = 2 ∧ lowV p ≤ n ∧ n ≤ 63999999999 ∧ (rec0 p).length = true) ∨ (k = 3 ∧ 0 ≤ n ∧ n ≤ 63999999999 ∧ (rec0 p).part = true) ∨ (k = 4 ∧ 0 ≤ n ∧ n ≤ 16777215 ∧ (rec0 p).color = true) ∨ (k = 5 ∧ 0 ≤ n ∧ n < ((rec0 p).wn : Int)) ∨ (k = 6 ∧ lowV p ≤ n ∧ n ≤ 63999999999 ∧ (rec0 p).number = true) := by
  unfold mayV at h
  by_cases k1 : k = 1
  · rw [if_pos k1, Bool.and_eq_true, decide_eq_true_iff] at h; exact .inl ⟨k1, h.2, h.1⟩
  rw [if_neg k1] at h
  by_cases k2 : k = 2
  · rw [if_pos k2, Bool.and_eq_true, Bool.and_eq_true, decide_eq_true_iff, decide_eq_true_iff] at h; exact .inr (.inl ⟨k2, h.2.1, h.2.2, h.1⟩)
  rw [if_neg k2] at h
  by_cases k3 : k = 3
  · rw [if_pos k3, Bool.and_eq_true, Bool.and_eq_true, decide_eq_true_iff, decide_eq_true_iff] at h; exact .inr (.inr (.inl ⟨k3, h.2.1, h.2.2, h.1⟩))
  rw [if_neg k3] at h
  by_cases k4 : k = 4
  · rw [if_pos k4, Bool.and_eq_true, Bool.and_eq_true, decide_eq_true_iff, decide_eq_true_iff] at h; exact .inr (.inr (.inr (.inl ⟨k4, h.2.1, h.2.2, h.1⟩)))
  rw [if_neg k4] at h
  by_cases k5 : k = 5
  · rw [if_pos k5, Bool.and_eq_true, decide_eq_true_iff, decide_eq_true_iff] at h; exact .inr (.inr (.inr (.inr (.inl ⟨k5, h.1, h.2⟩))))
  rw [if_neg k5] at h
  by_cases k6 : k = 6
  · rw [if_pos k6, Bool.and_eq_true, Bool.and_eq_true, decide_eq_true_iff, decide_eq_true_iff] at h; exact .inr (.inr (.inr (.inr (.inr ⟨k6, h.2.1, h.2.2, h.1⟩))))
  rw [if_neg k6] at h
  cases h
set_option maxHeartbeats 4000000 in
set_option maxRecDepth 100000 in
theorem printC (p k n : Int) (w : World) (hT : Tbs w) :
    Calls Tryz.prog 77 #[.int .i64 p, .agg #[.int .i64 k, .int .i64 n]] w fun e w' => e = .returned (.string (printV p k n)) ∧ Below w.heap.size w w' := by
  have hM := fun w => mayP p k n w
  have HP := Lib.hid (show printV p k n = ⟨(if mayV (cl p) k n = true then
    (if k = 1 then autoW else if k = 4 then 35 :: hexL n.toNat else if k = 5 then ((wordsP (cl p)).getD n.toNat ByteArray.empty).data.toList
      else if k = 2 then decL n ++ [112, 120] else if k = 3 then decL n ++ [37] else decL n)
  else []).toArray⟩ from rfl)
  have p0 : Below w.heap.size w (w.alloc (.cells #[.int .i64 k, .int .i64 n] 109)) := (Below.refl _ _).alloc (Nat.le_refl _) _
  by_cases hm : mayV (cl p) k n = true
  · rw [if_pos hm] at HP
    rw [hm] at hM
    have hD := fun (h1 : -63999999999 ≤ n) (h2 : n ≤ 63999999999) w hT => decimalC n h1 h2 w hT
    have hw5 := wordsP_len (cl p) (cl_le p)
    rcases may_kinds hm with ⟨rfl, rfl, _⟩ | ⟨rfl, h1, h2, _⟩ | ⟨rfl, h1, h2, _⟩ | ⟨rfl, h1, h2, _⟩ | ⟨rfl, h1, h2⟩ | ⟨rfl, h1, h2, _⟩
    · have HK := Lib.hid (show printV p 1 0 = ⟨#[97, 117, 116, 111]⟩ from HP.out)
      clear HP hD hw5 hm
      go_enter Tryz.func77, Tryz.ntmps77
      go_wp2_with (go_at_call 74; refine (hM _).mono ?_; rintro e w1 ⟨rfl, hB1⟩; obtain ⟨hc, hf⟩ := bcell hB1; have hz : w.heap.size < w1.heap.size := (by have q := hB1.size; rw [alloc_size] at q; exact q))
      go_ret
      exact ⟨(show _ = Ending.returned (Value.string ⟨#[97, 117, 116, 111]⟩) from rfl).trans (by rw [HK.out]), p0.trans (hB1.mono p0.size)⟩
    · have q := low_ge (cl p)
      have hDD := hD (by omega) (by omega)
      have hl := decL_len n (by omega) (by omega)
      have hq : ((⟨(decL n).toArray⟩ : ByteArray) ++ ⟨#[112, 120]⟩) = ⟨(decL n ++ [112, 120]).toArray⟩ := ba_app (decL n) [112, 120]
      have hs := ba_size (decL n)
      have HK := Lib.hid (show printV p 2 n = ((⟨(decL n).toArray⟩ : ByteArray) ++ ⟨#[112, 120]⟩) by rw [hq]; exact HP.out)
      have hk : (⟨(decL n).toArray⟩ : ByteArray).size + (⟨#[112, 120]⟩ : ByteArray).size ≤ 9223372036854775807 := by rw [hs]; show _ + 2 ≤ _; omega
      generalize (⟨(decL n).toArray⟩ : ByteArray) = D at hDD hk HK
      clear HP hD hw5 hm hq hs hl q
      go_enter Tryz.func77, Tryz.ntmps77
      go_wp2_with (first | (go_at_call 74; refine (hM _).mono ?_; rintro e w1 ⟨rfl, hB1⟩; obtain ⟨hc, hf⟩ := bcell hB1; have hz : w.heap.size < w1.heap.size := (by have q := hB1.size; rw [alloc_size] at q; exact q)) | (go_at_call 122; refine (hDD _ (hT.below (p0.trans (hB1.mono p0.size)))).mono ?_; rintro e w2 ⟨rfl, hB2⟩))
      go_ret
      exact ⟨(show _ = Ending.returned (Value.string (D ++ ⟨#[112, 120]⟩)) from rfl).trans (by rw [HK.out]), below_then (p0.trans (hB1.mono p0.size)) (p0.trans (hB1.mono p0.size)).size hB2⟩
    · have q := low_ge (cl p)
      have hDD := hD (by omega) (by omega)
      have hl := decL_len n (by omega) (by omega)
      have hq : ((⟨(decL n).toArray⟩ : ByteArray) ++ ⟨#[37]⟩) = ⟨(decL n ++ [37]).toArray⟩ := ba_app (decL n) [37]
      have hs := ba_size (decL n)
      have HK := Lib.hid (show printV p 3 n = ((⟨(decL n).toArray⟩ : ByteArray) ++ ⟨#[37]⟩) by rw [hq]; exact HP.out)
      have hk : (⟨(decL n).toArray⟩ : ByteArray).size + (⟨#[37]⟩ : ByteArray).size ≤ 9223372036854775807 := by rw [hs]; show _ + 1 ≤ _; omega
      generalize (⟨(decL n).toArray⟩ : ByteArray) = D at hDD hk HK
      clear HP hD hw5 hm hq hs hl q
      go_enter Tryz.func77, Tryz.ntmps77
      go_wp2_with (first | (go_at_call 74; refine (hM _).mono ?_; rintro e w1 ⟨rfl, hB1⟩; obtain ⟨hc, hf⟩ := bcell hB1; have hz : w.heap.size < w1.heap.size := (by have q := hB1.size; rw [alloc_size] at q; exact q)) | (go_at_call 122; refine (hDD _ (hT.below (p0.trans (hB1.mono p0.size)))).mono ?_; rintro e w2 ⟨rfl, hB2⟩))
      go_ret
      exact ⟨(show _ = Ending.returned (Value.string (D ++ ⟨#[37]⟩)) from rfl).trans (by rw [HK.out]), below_then (p0.trans (hB1.mono p0.size)) (p0.trans (hB1.mono p0.size)).size hB2⟩
    · obtain ⟨u, rfl⟩ : ∃ u : Nat, n = (u : Int) := ⟨n.toNat, by omega⟩
      have hF := fun w hT => fmt16 u (by omega) w hT
      have ex : (⟨(49 :: hexL u).toArray⟩ : ByteArray).extract 1 (⟨(49 :: hexL u).toArray⟩ : ByteArray).size = ⟨(hexL u).toArray⟩ := by
        rw [Lib.extract_mk]
        congr 2
      have HK := Lib.hid (show printV p 4 (u : Int) = (⟨#[35]⟩ : ByteArray) ++ ((⟨(49 :: hexL u).toArray⟩ : ByteArray).extract 1 (⟨(49 :: hexL u).toArray⟩ : ByteArray).size) by rw [ex]; exact HP.out.trans (ba_app [35] (hexL u)).symm)
      have hz7 : (⟨(49 :: hexL u).toArray⟩ : ByteArray).size = 7 := rfl
      have e1 : ((16777216 + u : Nat) : Int) = 16777216 + (u : Int) := by omega
      rw [e1] at hF
      generalize (⟨(49 :: hexL u).toArray⟩ : ByteArray) = D at hF hz7 HK
      have hz1 : 1 ≤ D.size ∧ D.size ≤ 7 := by omega
      have hk : (⟨#[35]⟩ : ByteArray).size + (D.extract 1 D.size).size ≤ 9223372036854775807 := by rw [ByteArray.size_extract]; show 1 + _ ≤ _; omega
      clear HP hD hw5 hm ex hz7 e1
      go_enter Tryz.func77, Tryz.ntmps77
      go_wp2_with (first | (go_at_call 74; refine (hM _).mono ?_; rintro e w1 ⟨rfl, hB1⟩; obtain ⟨hc, hf⟩ := bcell hB1; have hz : w.heap.size < w1.heap.size := (by have q := hB1.size; rw [alloc_size] at q; exact q)) | (go_at_call 121; refine (hF _ (hT.below (p0.trans (hB1.mono p0.size)))).mono ?_; rintro e w2 ⟨rfl, hB2⟩))
      go_ret
      exact ⟨(show _ = Ending.returned (Value.string ((⟨#[35]⟩ : ByteArray) ++ D.extract 1 D.size)) from rfl).trans (by rw [HK.out]), below_then (p0.trans (hB1.mono p0.size)) (p0.trans (hB1.mono p0.size)).size hB2⟩
    · obtain ⟨u, rfl⟩ : ∃ u : Nat, n = (u : Int) := ⟨n.toNat, by omega⟩
      rw [hw5] at h2
      have hO := fun w => ofP p w
      have hul : u < (wordsP (cl p)).length := by omega
      have HK := Lib.hid (show printV p 5 (u : Int) = (wordsP (cl p)).getD u ByteArray.empty from HP.out.trans (by show (⟨((wordsP (cl p)).getD ((u : Int)).toNat ByteArray.empty).data.toList.toArray⟩ : ByteArray) = _; rw [Int.toNat_natCast]))
      have hW : ∀ w wa, WordsIn w wa (wordsP (cl p)) → ∃ b, wa = some ⟨b, 0, none⟩ ∧ w.cell? ⟨b, 0 + u, none⟩ = some (.string ((wordsP (cl p)).getD u ByteArray.empty)) := by
        intro w wa h
        rcases h.at_ with h | ⟨b, e, h⟩
        · rw [h] at hul; cases hul
        · exact ⟨b, e, h u hul⟩
      have hWL := wordsP_le (cl p)
      have hrec : ∀ wa, recV (recA (cl p) wa) = .agg #[.string (rec0 (cl p)).name, .bool (rec0 (cl p)).auto, .bool (rec0 (cl p)).length, .bool (rec0 (cl p)).part, .bool (rec0 (cl p)).below, .bool (rec0 (cl p)).color, .bool (rec0 (cl p)).number, .slice wa (wordsP (cl p)).length (wordsP (cl p)).length, .int .i64 (rec0 (cl p)).k, .int .i64 (rec0 (cl p)).n] := by
        intro wa
        rw [← hw5]
        rfl
      simp only [hrec] at hO
      generalize (wordsP (cl p)).getD u ByteArray.empty = D at hW HK
      generalize (rec0 (cl p)).name = nm at hO
      generalize (rec0 (cl p)).auto = au at hO
      generalize (rec0 (cl p)).length = le at hO
      generalize (rec0 (cl p)).part = pa at hO
      generalize (rec0 (cl p)).below = be at hO
      generalize (rec0 (cl p)).color = co at hO
      generalize (rec0 (cl p)).number = nu at hO
      generalize (rec0 (cl p)).k = kk at hO
      generalize (rec0 (cl p)).n = nn at hO
      have HW := Lib.hid hW
      have g1 : (u : Int) < ((wordsP (cl p)).length : Int) := by omega
      clear HP hD hw5 hm hrec hW h1 h2
      go_enter Tryz.func77, Tryz.ntmps77
      go_wp2_with (first | (go_at_call 74; refine (hM _).mono ?_; rintro e w1 ⟨rfl, hB1⟩; obtain ⟨hc, hf⟩ := bcell hB1; have hz : w.heap.size < w1.heap.size := (by have q := hB1.size; rw [alloc_size] at q; exact q)) | (go_at_call 116; refine (hO _).mono ?_; rintro e w2 ⟨wa, rfl, hS, hB2⟩; obtain ⟨b, rfl, hcl⟩ := HW.out w2 wa hS; clear hS; rw [Nat.zero_add] at hcl; obtain ⟨hc2, hf2⟩ := bcell hB2; have hz2 : w.heap.size < w2.heap.size := (by have q := hB2.size; omega); have hbl := World.block_lt_of_cell? _ _ hcl))
      go_ret
      exact ⟨(show _ = Ending.returned (Value.string D) from rfl).trans (by rw [HK.out]), below_alloc (below_then (p0.trans (hB1.mono p0.size)) (p0.trans (hB1.mono p0.size)).size hB2) _⟩
    · have q := low_ge (cl p)
      have hDD := hD (by omega) (by omega)
      have HK := Lib.hid (show printV p 6 n = (⟨(decL n).toArray⟩ : ByteArray) from HP.out)
      generalize (⟨(decL n).toArray⟩ : ByteArray) = D at hDD HK
      clear HP hD hw5 hm q
      go_enter Tryz.func77, Tryz.ntmps77
      go_wp2_with (first | (go_at_call 74; refine (hM _).mono ?_; rintro e w1 ⟨rfl, hB1⟩; obtain ⟨hc, hf⟩ := bcell hB1; have hz : w.heap.size < w1.heap.size := (by have q := hB1.size; rw [alloc_size] at q; exact q)) | (go_at_call 122; refine (hDD _ (hT.below (p0.trans (hB1.mono p0.size)))).mono ?_; rintro e w2 ⟨rfl, hB2⟩))
      go_ret
      exact ⟨(show _ = Ending.returned (Value.string D) from rfl).trans (by rw [HK.out]), below_then (p0.trans (hB1.mono p0.size)) (p0.trans (hB1.mono p0.size)).size hB2⟩
  · rw [if_neg hm] at HP
    rw [Bool.eq_false_iff.2 hm] at hM
    clear hm
    go_enter Tryz.func77, Tryz.ntmps77
    go_wp2_with (go_at_call 74; refine (hM _).mono ?_; rintro e w1 ⟨rfl, hB1⟩)
    go_ret
    exact ⟨(show _ = Ending.returned (Value.string ⟨#[]⟩) from rfl).trans (by rw [HP.out]), p0.trans (hB1.mono p0.size)⟩
end Go.Proofs.Val
set_option linter.unusedVariables false
set_option linter.unusedSimpArgs false
namespace Go.Proofs.Sht
open Go.RowKit Go.Lib
def Env (w : World) : Prop := Go.Proofs.Scn.Mx w ∧ Go.Proofs.Val.Tbs w
theorem Env.below {w w' : World} (h : Env w) (hb : Below w.heap.size w w') : Env w' := ⟨h.1.below hb, h.2.below hb⟩
theorem Env.draws {w : World} (h : Env w) (n : Nat) : Env (w.drewN n) := ⟨h.1.draws n, h.2.draws n⟩
end Go.Proofs.Sht
set_option linter.unusedVariables false
set_option linter.unusedSimpArgs false
namespace Go.Proofs.Scn
open Go.Lib
theorem idx_spec (c : UInt8) : ∀ l : List UInt8, (Lib.index l [c] = -1 ∧ c ∉ l) ∨ ∃ p t, l = p ++ c :: t ∧ c ∉ p ∧ Lib.index l [c] = (p.length : Int)
  | [] => by left; simp [Lib.index]
  | b :: l => by
    by_cases h : c = b
    · subst h
      right
      exact ⟨[], l, rfl, by simp, by simp [Lib.index, List.isPrefixOf]⟩
    · have hp : ([c] : List UInt8).isPrefixOf (b :: l) = false := by simp [List.isPrefixOf, h]
      rcases idx_spec c l with ⟨h1, h2⟩ | ⟨p, t, h1, h2, h3⟩
      · left
        refine ⟨by simp [Lib.index, hp, h1], ?_⟩
        simp [h, h2]
      · right
        refine ⟨b :: p, t, by rw [h1]; rfl, by simp [h, h2], ?_⟩
        have hn : ((p.length : Int) == -1) = false := by rw [beq_eq_false_iff_ne]; omega
        simp [Lib.index, hp, h3, hn]
theorem cut_spec (c : UInt8) (l : List UInt8) : (Lib.cut l [c] = (l, [], false) ∧ c ∉ l) ∨ ∃ p t, l = p ++ c :: t ∧ c ∉ p ∧ Lib.cut l [c] = (p, t, true) := by
  rcases idx_spec c l with ⟨h1, h2⟩ | ⟨p, t, h1, h2, h3⟩
  · left
    refine ⟨?_, h2⟩
    unfold Lib.cut
    rw [h1, if_neg (by decide)]
  · right
    refine ⟨p, t, h1, h2, ?_⟩
    unfold Lib.cut
    rw [h3, if_pos (by omega), h1]
    simp
theorem any_spec (cs : List UInt8) : ∀ l : List UInt8, (Lib.indexAny l cs = -1 ∧ ∀ c ∈ l, cs.contains c = false) ∨ ∃ p b t, l = p ++ b :: t ∧ (∀ c ∈ p, cs.contains c = false) ∧ cs.contains b = true ∧ Lib.indexAny l cs = (p.length : Int)
  | [] => by left; simp [Lib.indexAny]
  | b :: l => by
    cases h : cs.contains b with
    | true =>
      right
      refine ⟨[], b, l, rfl, by simp, h, ?_⟩
      unfold Lib.indexAny
      rw [if_pos h]
      rfl
    | false =>
      have e : Lib.indexAny (b :: l) cs = if Lib.indexAny l cs == -1 then -1 else Lib.indexAny l cs + 1 := by
        rw [Lib.indexAny, h]
        simp
      rcases any_spec cs l with ⟨h1, h2⟩ | ⟨p, d, t, h1, h2, h3, h4⟩
      · left
        refine ⟨by rw [e, h1]; rfl, ?_⟩
        intro c hc
        rcases List.mem_cons.1 hc with rfl | hc
        · exact h
        · exact h2 c hc
      · right
        refine ⟨b :: p, d, t, by rw [h1]; rfl, ?_, h3, ?_⟩
        · intro c hc
          rcases List.mem_cons.1 hc with rfl | hc
          · exact h
          · exact h2 c hc
        · have hn : ((p.length : Int) == -1) = false := by rw [beq_eq_false_iff_ne]; omega
          rw [e, h4, hn]
          simp
def spl (c : UInt8) : List UInt8 → List (List UInt8)
  | [] => [[]]
  | x :: t => if x = c then [] :: spl c t else match spl c t with
    | [] => [[x]]
    | h :: r => (x :: h) :: r
theorem spl_hit {c : UInt8} {t : List UInt8} : spl c (c :: t) = [] :: spl c t := by simp [spl]
theorem spl_step {c x : UInt8} {t : List UInt8} {h : List UInt8} {r : List (List UInt8)} (hx : x ≠ c) (ht : spl c t = h :: r) : spl c (x :: t) = (x :: h) :: r := by simp [spl, hx, ht]
theorem spl_ne (c : UInt8) : ∀ l : List UInt8, ∃ h r, spl c l = h :: r
  | [] => ⟨[], [], rfl⟩
  | x :: t => by
    obtain ⟨h, r, e⟩ := spl_ne c t
    by_cases hx : x = c
    · subst hx
      exact ⟨_, _, spl_hit⟩
    · exact ⟨_, _, spl_step hx e⟩
theorem spl_none {c : UInt8} : ∀ {l : List UInt8}, c ∉ l → spl c l = [l]
  | [], _ => rfl
  | x :: t, h => by
    simp at h
    exact spl_step (fun e => h.1 e.symm) (spl_none h.2)
theorem spl_cut {c : UInt8} {t : List UInt8} : ∀ {p : List UInt8}, c ∉ p → spl c (p ++ c :: t) = p :: spl c t
  | [], _ => spl_hit
  | x :: p, h => by
    simp at h
    exact spl_step (fun e => h.1 e.symm) (spl_cut h.2)
theorem spl_app (c : UInt8) (t : List UInt8) : ∀ p : List UInt8, spl c (p ++ c :: t) = spl c p ++ spl c t
  | [] => spl_hit
  | x :: p => by
    by_cases hx : x = c
    · subst hx
      rw [spl_hit, List.cons_append, spl_hit, spl_app]
      rfl
    · obtain ⟨h, r, e⟩ := spl_ne c p
      have e2 := spl_app c t p
      rw [e] at e2
      rw [spl_step hx e]
      exact spl_step hx e2
theorem splitK_spl (c : UInt8) : ∀ (n : Nat) (l : List UInt8), l.length < n → Lib.splitK [c] 0 (Lib.countFrom [c] n l) l = spl c l
  | 0, l, h => by omega
  | n + 1, l, h => by
    rcases idx_spec c l with ⟨h1, h2⟩ | ⟨p, t, h1, h2, h3⟩
    · rw [Lib.countFrom, h1, spl_none h2]
      rfl
    · have hn : ((p.length : Int) == -1) = false := by rw [beq_eq_false_iff_ne]; omega
      have hd : l.drop (p.length + 1) = t := by rw [h1]; simp
      have ht : l.take p.length = p := by rw [h1]; simp
      have hl : t.length < n := by rw [h1] at h; simp at h; omega
      rw [Lib.countFrom, h3, hn, if_neg (by decide), Nat.add_comm 1, Lib.splitK, h3, hn, if_neg (by decide)]
      show l.take (p.length + 0) :: Lib.splitK [c] 0 (Lib.countFrom [c] n (l.drop (p.length + 1))) (l.drop (p.length + 1)) = _
      rw [hd, Nat.add_zero, ht, splitK_spl c n t hl, h1, spl_cut h2]
def ba (l : List UInt8) : ByteArray := ⟨l.toArray⟩
theorem ba_data (l : List UInt8) : (ba l).data.toList = l := by simp [ba]
theorem splitV_eq (s : ByteArray) (c : UInt8) : splitV s c = (spl c s.data.toList).map fun l => ba (trimL l) := by
  have e := Lib.splitB_data ⟨#[c]⟩ 0 (Lib.countB s ⟨#[c]⟩) s
  have e2 : Lib.splitK [c] 0 (Lib.countB s ⟨#[c]⟩) s.data.toList = spl c s.data.toList := splitK_spl c _ _ (Nat.lt_succ_self _)
  unfold splitV
  rw [← e2]
  rw [show ([c] : List UInt8) = (⟨#[c]⟩ : ByteArray).data.toList from rfl, ← e, List.map_map]
  rfl
def wg : List UInt8 → List UInt8 → List (List UInt8)
  | cur, [] => if cur = [] then [] else [cur]
  | cur, c :: t => if isB c = true then (if cur = [] then wg [] t else cur :: wg [] t) else wg (cur ++ [c]) t
theorem wg_blank {c : UInt8} {t : List UInt8} (h : isB c = true) : wg [] (c :: t) = wg [] t := by rw [wg, if_pos h, if_pos rfl]
theorem wg_shut {c : UInt8} {cur t : List UInt8} (h : isB c = true) (hc : cur ≠ []) : wg cur (c :: t) = cur :: wg [] t := by rw [wg, if_pos h, if_neg hc]
theorem wg_go {c : UInt8} {cur t : List UInt8} (h : isB c = false) : wg cur (c :: t) = wg (cur ++ [c]) t := by rw [wg, h]; rfl
theorem wg_word {t : List UInt8} : ∀ {p cur : List UInt8}, (∀ c ∈ p, isB c = false) → wg cur (p ++ t) = wg (cur ++ p) t
  | [], cur, _ => by simp
  | c :: p, cur, h => by
    rw [List.cons_append, wg_go (h c (by simp)), wg_word fun d hd => h d (by simp [hd])]
    simp
theorem wg_trimLeft : ∀ l : List UInt8, wg [] (Lib.trimLeftS l bl) = wg [] l
  | [] => rfl
  | c :: t => by
    have ih := wg_trimLeft t
    unfold Lib.trimLeftS at ih ⊢
    cases h : isB c with
    | true => rw [dw_cons_yes h, wg_blank h, ih]
    | false => rw [dw_cons_no h]
theorem trimLeft_head {l : List UInt8} {c : UInt8} {t : List UInt8} (h : Lib.trimLeftS l bl = c :: t) : isB c = false := by
  induction l with
  | nil => cases h
  | cons d u ih =>
    unfold Lib.trimLeftS at h ih
    cases hd : isB d with
    | true => rw [dw_cons_yes hd] at h; exact ih h
    | false =>
      rw [dw_cons_no hd] at h
      cases h
      exact hd
theorem wordsF_nil : ∀ k, wordsF k [] = []
  | 0 => rfl
  | k + 1 => rfl
theorem wordsF_wg : ∀ (k : Nat) (l : List UInt8), l.length < k → wordsF k l = wg [] l
  | 0, l, h => by omega
  | k + 1, l, h => by
    have hl := trimLeft_le l bl
    rw [wordsF, ← wg_trimLeft l]
    generalize ht : Lib.trimLeftS l bl = t at hl
    rcases any_spec bl t with ⟨h1, h2⟩ | ⟨p, b, u, h1, h2, h3, h4⟩
    · have e : wordEnd t = t.length := by unfold wordEnd; rw [h1]; rfl
      rw [e]
      by_cases h0 : t.length = 0
      · rw [if_pos h0, List.length_eq_zero_iff.1 h0]; rfl
      · rw [if_neg h0, List.take_length, List.drop_length, wordsF_nil]
        have := wg_word (t := []) (p := t) (cur := []) h2
        rw [List.append_nil, List.nil_append] at this
        rw [this, wg, if_neg (fun e => h0 (by rw [e]; rfl))]
    · have e : wordEnd t = p.length := by unfold wordEnd; rw [h4, if_neg (by omega)]; rfl
      have hp : p ≠ [] := by
        intro hp
        subst hp
        have := trimLeft_head (l := l) (ht.trans h1)
        exact absurd (this.symm.trans h3) (by decide)
      have hp0 : p.length ≠ 0 := fun e => hp (List.length_eq_zero_iff.1 e)
      have hlen : (b :: u).length < k := by rw [h1] at hl; simp at hl ⊢; omega
      rw [e, if_neg hp0, h1]
      simp only [List.take_left, List.drop_left]
      rw [wordsF_wg k _ hlen, wg_blank h3, wg_word h2, List.nil_append, wg_shut h3 hp]
theorem wordsV_eq (s : ByteArray) : wordsV s = (wg [] s.data.toList).map ba := by
  unfold wordsV
  rw [wordsF_wg _ _ (by rw [← Lib.size_eq]; exact Nat.lt_succ_self _)]
  rfl
end Go.Proofs.Scn
set_option linter.unusedVariables false
set_option linter.unusedSimpArgs false
namespace Go.Proofs.Sht
open Go.Lib Go.Proofs.Scn
abbrev Dc := Int × Int × Int × Bool
def strongW : List UInt8 := [33, 105, 109, 112, 111, 114, 116, 97, 110, 116]
def propsV (n : ByteArray) : Int × Int :=
  if n.toList = [109, 97, 114, 103, 105, 110] then (4, 4)
  else if n.toList = [112, 97, 100, 100, 105, 110, 103] then (8, 4)
  else if n.toList = [98, 111, 114, 100, 101, 114, 45, 119, 105, 100, 116, 104] then (12, 4)
  else (Val.propV n, 1)
def sharedV (n : Nat) : List Nat := if n = 2 then [0, 1, 0, 1] else if n = 3 then [0, 1, 2, 1] else if n = 4 then [0, 1, 2, 3] else [0, 0, 0, 0]
def valsV (p : Int) (ts : List ByteArray) (im : Bool) (wh : List Nat) : Nat → Nat → List Dc → List Dc
  | 0, _, acc => acc
  | d + 1, i, acc =>
    let r := Val.readV (p + i) (ts.getD (wh.getD i 0) ByteArray.empty)
    if r.2 = true then valsV p ts im wh d (i + 1) (acc ++ [(p + i, r.1.1, r.1.2, im)]) else []
def textsV (many : Int) (t : ByteArray) : List ByteArray := if many = 4 then wordsV t else [t]
def declV (s : ByteArray) : List Dc :=
  let c := Lib.cut s.data.toList [58]
  let pm := propsV (lowV (trimV (ba c.1)))
  if c.2.2 = true ∧ pm.1 ≠ 0 then
    let t := lowV (trimV (ba c.2.1))
    let ts := textsV pm.2 (ba (Lib.trimSuffix t.data.toList strongW))
    if 0 < ts.length ∧ ts.length ≤ 4 then valsV pm.1 ts (Lib.hasSuffix t.data.toList strongW) (sharedV ts.length) pm.2.toNat 0 []
    else []
  else []
def partD (p : List UInt8) : List Dc := declV (ba (trimL p))
def declsV (s : ByteArray) : List Dc := (spl 59 s.data.toList).flatMap partD
end Go.Proofs.Sht
