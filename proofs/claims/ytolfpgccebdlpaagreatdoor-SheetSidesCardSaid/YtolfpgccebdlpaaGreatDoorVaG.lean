/- The value that any text is of a sort: contract proved by walking its text; no condition beside those that the theorem states. Printed by a program of this session (vag.py). -/
import Derived.Test.YtolfpgccebdlpaaGreatDoorVaE
set_option linter.unusedVariables false
set_option linter.unusedSimpArgs false
namespace Go.Proofs.Val
open Go.RowKit Go.Proofs Go.Proofs.YtolfpgccebdlpaaGreatDoorW.PrintWords
def autoW : List UInt8 := [97, 117, 116, 111]
def anyR (au le pa co nu : Bool) (ws : List ByteArray) (l : List UInt8) : (Int × Int) × Bool :=
  if 0 ≤ Lib.idxOfS ws ⟨l.toArray⟩ then ((5, Lib.idxOfS ws ⟨l.toArray⟩), true)
  else if (au && decide (l = autoW)) = true then ((1, 0), true)
  else if (le && decide (l = [48])) = true then ((2, 0), true)
  else if co = true then ((4, colN l), colOk l)
  else if (le && measOk l [112, 120]) = true then (measV l [112, 120] 2, true)
  else if pa = true then (measV l [37] 3, measOk l [37])
  else if nu = true then (measV l [] 6, measOk l [])
  else ((0, 0), false)
theorem beq_dec (l m : List UInt8) : (l == m) = decide (l = m) := by
  by_cases h : l = m
  · rw [decide_eq_true h, h]; simp
  · rw [decide_eq_false h]; exact beq_eq_false_iff_ne.2 h
theorem idxS_bd (ws : List ByteArray) (s : ByteArray) : -1 ≤ Lib.idxOfS ws s ∧ Lib.idxOfS ws s < ws.length + 1 := by
  have := idxFrom_bd s ws 0
  unfold Lib.idxOfS
  omega
set_option maxHeartbeats 8000000 in
set_option maxRecDepth 100000 in
theorem anyC (nm : ByteArray) (au le pa be co nu : Bool) (wa : Option Addr) (ws : List ByteArray) (kk nn : Int) (l : List UInt8) (w : World) (hw : WordsIn w wa ws) (hws : ws.length ≤ 4) (hs : l.length < 4294967281) :
    Calls Tryz.prog 145 #[.agg #[.string nm, .bool au, .bool le, .bool pa, .bool be, .bool co, .bool nu, .slice wa ws.length ws.length, .int .i64 kk, .int .i64 nn], .string ⟨l.toArray⟩] w fun e w' =>
      e = .returned (.tuple #[.agg #[.int .i64 (anyR au le pa co nu ws l).1.1, .int .i64 (anyR au le pa co nu ws l).1.2], .bool (anyR au le pa co nu ws l).2]) ∧ Below w.heap.size w w' := by
  have hI : ∀ W, Below w.heap.size w W → Calls Tryz.prog 175 #[.slice wa ws.length ws.length, .string ⟨l.toArray⟩] W fun e w' => e = .returned (.int .i64 (Lib.idxOfS ws ⟨l.toArray⟩)) ∧ w' = W := by
    intro W hW
    rcases (hw.below hW).at_ with rfl | ⟨b, rfl, hc⟩
    · exact Tryz.slices_Index_string_empty wa 0 _ W
    · have := Tryz.slices_Index_string b 0 ws.length ws.length ws ⟨l.toArray⟩ W (Nat.le_refl _) (by omega) hc
      rwa [List.take_length] at this
  have hCol := fun w => colorC l w hs
  have hPx := fun w => measureC l [112, 120] 2 w hs
  have hPc := fun w => measureC l [37] 3 w hs
  have hNu := fun w => measureC l [] 6 w hs
  have hR := Lib.hid (show anyR au le pa co nu ws l = (if 0 ≤ Lib.idxOfS ws ⟨l.toArray⟩ then ((5, Lib.idxOfS ws ⟨l.toArray⟩), true)
    else if (au && decide (l = autoW)) = true then ((1, 0), true)
    else if (le && decide (l = [48])) = true then ((2, 0), true)
    else if co = true then ((4, colN l), colOk l)
    else if (le && measOk l [112, 120]) = true then (measV l [112, 120] 2, true)
    else if pa = true then (measV l [37] 3, measOk l [37])
    else if nu = true then (measV l [] 6, measOk l [])
    else ((0, 0), false)) from rfl)
  have hbd := idxS_bd ws ⟨l.toArray⟩
  have hqx : measOk l [112, 120] = true → (measV l [112, 120] 2).1 = 2 := fun h => by unfold measV; rw [if_pos h]
  obtain ⟨i, hi⟩ : ∃ i, Lib.idxOfS ws ⟨l.toArray⟩ = i := ⟨_, rfl⟩
  obtain ⟨⟨⟨ra, rb⟩, rc⟩, hr⟩ : ∃ r, anyR au le pa co nu ws l = r := ⟨_, rfl⟩
  have ea : ((⟨l.toArray⟩ : ByteArray).toList == [97, 117, 116, 111]) = decide (l = autoW) := by rw [Lib.toList_data]; exact beq_dec _ _
  have ez : ((⟨l.toArray⟩ : ByteArray).toList == [48]) = decide (l = [48]) := by rw [Lib.toList_data]; exact beq_dec _ _
  obtain ⟨qa, hqa⟩ : ∃ q, decide (l = autoW) = q := ⟨_, rfl⟩
  obtain ⟨qz, hqz⟩ : ∃ q, decide (l = [48]) = q := ⟨_, rfl⟩
  obtain ⟨cN, hcN⟩ : ∃ q, colN l = q := ⟨_, rfl⟩
  obtain ⟨cB, hcB⟩ : ∃ q, colOk l = q := ⟨_, rfl⟩
  obtain ⟨⟨xa, xb⟩, hxV⟩ : ∃ q, measV l [112, 120] 2 = q := ⟨_, rfl⟩
  obtain ⟨xB, hxB⟩ : ∃ q, measOk l [112, 120] = q := ⟨_, rfl⟩
  obtain ⟨⟨pA, pb⟩, hpV⟩ : ∃ q, measV l [37] 3 = q := ⟨_, rfl⟩
  obtain ⟨pB, hpB⟩ : ∃ q, measOk l [37] = q := ⟨_, rfl⟩
  obtain ⟨⟨ua, ub⟩, huV⟩ : ∃ q, measV l [] 6 = q := ⟨_, rfl⟩
  obtain ⟨uB, huB⟩ : ∃ q, measOk l [] = q := ⟨_, rfl⟩
  have hRR := hR.out
  rw [hr, hi, hqa, hqz, hcN, hcB, hxV, hxB, hpV, hpB, huV, huB] at hRR
  rw [hr]
  simp only [hi] at hI
  rw [hi] at hbd
  simp only [hcN, hcB] at hCol
  simp only [hxV, hxB] at hPx
  simp only [hpV, hpB] at hPc
  simp only [huV, huB] at hNu
  rw [hqa] at ea
  rw [hqz] at ez
  clear hR hr hi hqa hqz hcN hcB hxV hxB hpV hpB huV huB hw hqx hs
  generalize (⟨l.toArray⟩ : ByteArray) = s at hI hCol hPx hPc hNu ea ez ⊢
  obtain ⟨n, hn⟩ : ∃ n, ws.length = n := ⟨_, rfl⟩
  rw [hn] at hI hbd hws ⊢
  clear hn
  by_cases h0 : 0 ≤ i
  · skip
    have d0 : decide (0 ≤ i) = true := decide_eq_true h0
    have HK := Lib.hid (show (ra, rb, rc) = ((5 : Int), (i : Int), true) from by simp only [h0, if_true, if_false, Bool.and_true, Bool.and_false, Bool.true_and, Bool.false_and, Bool.false_eq_true, Prod.mk.injEq] at hRR ⊢; obtain ⟨⟨a, b⟩, c⟩ := hRR; exact ⟨a, b, c⟩)
    obtain ⟨r1, r2, r3⟩ : ra = _ ∧ rb = _ ∧ rc = _ := ⟨(Prod.mk.inj HK.out).1, (Prod.mk.inj (Prod.mk.inj HK.out).2).1, (Prod.mk.inj (Prod.mk.inj HK.out).2).2⟩
    subst r1 r2 r3
    clear HK hRR
    go_enter Tryz.func145, Tryz.ntmps145
    go_wp2_with (first | (go_at_call 175; refine (hI _ (by exact ((Below.refl _ _).alloc (Nat.le_refl _) _).alloc (by simp) _)).mono ?_; rintro e w' ⟨rfl, rfl⟩))
    refine bodyPost_ret (v := .tuple #[.agg #[.int .i64 (5), .int .i64 (rb)], .bool true]) (by simp [results, Tryz.results145, go_sem]) rfl ⟨rfl, ?_⟩
    first | exact ((Below.refl _ _).alloc (Nat.le_refl _) _).alloc (by simp) _ | exact ((((Below.refl _ _).alloc (Nat.le_refl _) _).alloc (by simp) _).setCell (by simp) _).setCell (by simp) _
  have d0 : decide (0 ≤ i) = false := decide_eq_false h0
  cases au with
  | false =>
    cases le with
    | false =>
      cases co with
      | true =>
        have HK := Lib.hid (show (ra, rb, rc) = ((4 : Int), (cN : Int), cB) from by simp only [h0, if_true, if_false, Bool.and_true, Bool.and_false, Bool.true_and, Bool.false_and, Bool.false_eq_true, Prod.mk.injEq] at hRR ⊢; obtain ⟨⟨a, b⟩, c⟩ := hRR; exact ⟨a, b, c⟩)
        obtain ⟨r1, r2, r3⟩ : ra = _ ∧ rb = _ ∧ rc = _ := ⟨(Prod.mk.inj HK.out).1, (Prod.mk.inj (Prod.mk.inj HK.out).2).1, (Prod.mk.inj (Prod.mk.inj HK.out).2).2⟩
        subst r1 r2 r3
        clear HK hRR
        go_enter Tryz.func145, Tryz.ntmps145
        go_wp2_with (first | (go_at_call 175; refine (hI _ (by exact ((Below.refl _ _).alloc (Nat.le_refl _) _).alloc (by simp) _)).mono ?_; rintro e w' ⟨rfl, rfl⟩) | (go_at_call 176; refine (hCol _).mono ?_; rintro e w1 ⟨rfl, hB1⟩; obtain ⟨hc, hf⟩ := bcell hB1; have hz : w.heap.size + 1 < w1.heap.size := (by have hs := hB1.size; simp at hs; omega); have hy : w.heap.size < w1.heap.size := (by omega)))
        refine bodyPost_ret (v := .tuple #[.agg #[.int .i64 (4), .int .i64 (rb)], .bool rc]) (by simp [results, Tryz.results145, go_sem, hc, hz]) rfl ⟨rfl, ?_⟩
        have p1 : Below w.heap.size w w1 := (((Below.refl _ _).alloc (Nat.le_refl _) _).alloc (by simp) _).trans (hB1.mono (by first | (simp; done) | (simp; omega)))
        first | exact (p1.setCell (by simp) _).setCell (by simp) _ | exact ((below_alloc p1 _).setCell (by simp) _).setCell (by simp) _ | exact below_alloc ((p1.setCell (by simp) _).setCell (by simp) _) _
      | false =>
        cases pa with
        | true =>
          have HK := Lib.hid (show (ra, rb, rc) = ((pA : Int), (pb : Int), pB) from by simp only [h0, if_true, if_false, Bool.and_true, Bool.and_false, Bool.true_and, Bool.false_and, Bool.false_eq_true, Prod.mk.injEq] at hRR ⊢; obtain ⟨⟨a, b⟩, c⟩ := hRR; exact ⟨a, b, c⟩)
          obtain ⟨r1, r2, r3⟩ : ra = _ ∧ rb = _ ∧ rc = _ := ⟨(Prod.mk.inj HK.out).1, (Prod.mk.inj (Prod.mk.inj HK.out).2).1, (Prod.mk.inj (Prod.mk.inj HK.out).2).2⟩
          subst r1 r2 r3
          clear HK hRR
          go_enter Tryz.func145, Tryz.ntmps145
          go_wp2_with (first | (go_at_call 175; refine (hI _ (by exact ((Below.refl _ _).alloc (Nat.le_refl _) _).alloc (by simp) _)).mono ?_; rintro e w' ⟨rfl, rfl⟩) | (go_at_call 177; with_reducible refine (hPc _).mono ?_; rintro e w1 ⟨rfl, hB1⟩; obtain ⟨hc, hf⟩ := bcell hB1; have hz : w.heap.size + 1 < w1.heap.size := (by have hs := hB1.size; simp at hs; omega); have hy : w.heap.size < w1.heap.size := (by omega)))
          refine bodyPost_ret (v := .tuple #[.agg #[.int .i64 (ra), .int .i64 (rb)], .bool rc]) (by simp [results, Tryz.results145, go_sem, hc, hz]) rfl ⟨rfl, ?_⟩
          have p1 : Below w.heap.size w w1 := (((Below.refl _ _).alloc (Nat.le_refl _) _).alloc (by simp) _).trans (hB1.mono (by first | (simp; done) | (simp; omega)))
          first | exact (p1.setCell (by simp) _).setCell (by simp) _ | exact ((below_alloc p1 _).setCell (by simp) _).setCell (by simp) _ | exact below_alloc ((p1.setCell (by simp) _).setCell (by simp) _) _
        | false =>
          cases nu with
          | true =>
            have HK := Lib.hid (show (ra, rb, rc) = ((ua : Int), (ub : Int), uB) from by simp only [h0, if_true, if_false, Bool.and_true, Bool.and_false, Bool.true_and, Bool.false_and, Bool.false_eq_true, Prod.mk.injEq] at hRR ⊢; obtain ⟨⟨a, b⟩, c⟩ := hRR; exact ⟨a, b, c⟩)
            obtain ⟨r1, r2, r3⟩ : ra = _ ∧ rb = _ ∧ rc = _ := ⟨(Prod.mk.inj HK.out).1, (Prod.mk.inj (Prod.mk.inj HK.out).2).1, (Prod.mk.inj (Prod.mk.inj HK.out).2).2⟩
            subst r1 r2 r3
            clear HK hRR
            go_enter Tryz.func145, Tryz.ntmps145
            go_wp2_with (first | (go_at_call 175; refine (hI _ (by exact ((Below.refl _ _).alloc (Nat.le_refl _) _).alloc (by simp) _)).mono ?_; rintro e w' ⟨rfl, rfl⟩) | (go_at_call 177; with_reducible refine (hNu _).mono ?_; rintro e w1 ⟨rfl, hB1⟩; obtain ⟨hc, hf⟩ := bcell hB1; have hz : w.heap.size + 1 < w1.heap.size := (by have hs := hB1.size; simp at hs; omega); have hy : w.heap.size < w1.heap.size := (by omega)))
            refine bodyPost_ret (v := .tuple #[.agg #[.int .i64 (ra), .int .i64 (rb)], .bool rc]) (by simp [results, Tryz.results145, go_sem, hc, hz]) rfl ⟨rfl, ?_⟩
            have p1 : Below w.heap.size w w1 := (((Below.refl _ _).alloc (Nat.le_refl _) _).alloc (by simp) _).trans (hB1.mono (by first | (simp; done) | (simp; omega)))
            first | exact (p1.setCell (by simp) _).setCell (by simp) _ | exact ((below_alloc p1 _).setCell (by simp) _).setCell (by simp) _ | exact below_alloc ((p1.setCell (by simp) _).setCell (by simp) _) _
          | false =>
            as_aux_lemma =>
            have HK := Lib.hid (show (ra, rb, rc) = ((0 : Int), (0 : Int), false) from by simp only [h0, if_true, if_false, Bool.and_true, Bool.and_false, Bool.true_and, Bool.false_and, Bool.false_eq_true, Prod.mk.injEq] at hRR ⊢; obtain ⟨⟨a, b⟩, c⟩ := hRR; exact ⟨a, b, c⟩)
            obtain ⟨r1, r2, r3⟩ : ra = _ ∧ rb = _ ∧ rc = _ := ⟨(Prod.mk.inj HK.out).1, (Prod.mk.inj (Prod.mk.inj HK.out).2).1, (Prod.mk.inj (Prod.mk.inj HK.out).2).2⟩
            subst r1 r2 r3
            clear HK hRR
            go_enter Tryz.func145, Tryz.ntmps145
            go_wp2_with (first | (go_at_call 175; refine (hI _ (by exact ((Below.refl _ _).alloc (Nat.le_refl _) _).alloc (by simp) _)).mono ?_; rintro e w' ⟨rfl, rfl⟩))
            refine bodyPost_ret (v := .tuple #[.agg #[.int .i64 (0), .int .i64 (0)], .bool false]) (by simp [results, Tryz.results145, go_sem]) rfl ⟨rfl, ?_⟩
            first | exact ((Below.refl _ _).alloc (Nat.le_refl _) _).alloc (by simp) _ | exact ((((Below.refl _ _).alloc (Nat.le_refl _) _).alloc (by simp) _).setCell (by simp) _).setCell (by simp) _
    | true =>
      cases qz with
      | true =>
        have HK := Lib.hid (show (ra, rb, rc) = ((2 : Int), (0 : Int), true) from by simp only [h0, if_true, if_false, Bool.and_true, Bool.and_false, Bool.true_and, Bool.false_and, Bool.false_eq_true, Prod.mk.injEq] at hRR ⊢; obtain ⟨⟨a, b⟩, c⟩ := hRR; exact ⟨a, b, c⟩)
        obtain ⟨r1, r2, r3⟩ : ra = _ ∧ rb = _ ∧ rc = _ := ⟨(Prod.mk.inj HK.out).1, (Prod.mk.inj (Prod.mk.inj HK.out).2).1, (Prod.mk.inj (Prod.mk.inj HK.out).2).2⟩
        subst r1 r2 r3
        clear HK hRR
        go_enter Tryz.func145, Tryz.ntmps145
        go_wp2_with (first | (go_at_call 175; refine (hI _ (by exact ((Below.refl _ _).alloc (Nat.le_refl _) _).alloc (by simp) _)).mono ?_; rintro e w' ⟨rfl, rfl⟩))
        refine bodyPost_ret (v := .tuple #[.agg #[.int .i64 (2), .int .i64 (0)], .bool true]) (by simp [results, Tryz.results145, go_sem]) rfl ⟨rfl, ?_⟩
        first | exact ((Below.refl _ _).alloc (Nat.le_refl _) _).alloc (by simp) _ | exact ((((Below.refl _ _).alloc (Nat.le_refl _) _).alloc (by simp) _).setCell (by simp) _).setCell (by simp) _
      | false =>
        cases co with
        | true =>
          have HK := Lib.hid (show (ra, rb, rc) = ((4 : Int), (cN : Int), cB) from by simp only [h0, if_true, if_false, Bool.and_true, Bool.and_false, Bool.true_and, Bool.false_and, Bool.false_eq_true, Prod.mk.injEq] at hRR ⊢; obtain ⟨⟨a, b⟩, c⟩ := hRR; exact ⟨a, b, c⟩)
          obtain ⟨r1, r2, r3⟩ : ra = _ ∧ rb = _ ∧ rc = _ := ⟨(Prod.mk.inj HK.out).1, (Prod.mk.inj (Prod.mk.inj HK.out).2).1, (Prod.mk.inj (Prod.mk.inj HK.out).2).2⟩
          subst r1 r2 r3
          clear HK hRR
          go_enter Tryz.func145, Tryz.ntmps145
          go_wp2_with (first | (go_at_call 175; refine (hI _ (by exact ((Below.refl _ _).alloc (Nat.le_refl _) _).alloc (by simp) _)).mono ?_; rintro e w' ⟨rfl, rfl⟩) | (go_at_call 176; refine (hCol _).mono ?_; rintro e w1 ⟨rfl, hB1⟩; obtain ⟨hc, hf⟩ := bcell hB1; have hz : w.heap.size + 1 < w1.heap.size := (by have hs := hB1.size; simp at hs; omega); have hy : w.heap.size < w1.heap.size := (by omega)))
          refine bodyPost_ret (v := .tuple #[.agg #[.int .i64 (4), .int .i64 (rb)], .bool rc]) (by simp [results, Tryz.results145, go_sem, hc, hz]) rfl ⟨rfl, ?_⟩
          have p1 : Below w.heap.size w w1 := (((Below.refl _ _).alloc (Nat.le_refl _) _).alloc (by simp) _).trans (hB1.mono (by first | (simp; done) | (simp; omega)))
          first | exact (p1.setCell (by simp) _).setCell (by simp) _ | exact ((below_alloc p1 _).setCell (by simp) _).setCell (by simp) _ | exact below_alloc ((p1.setCell (by simp) _).setCell (by simp) _) _
        | false =>
          cases xB with
          | true =>
            have HK := Lib.hid (show (ra, rb, rc) = ((xa : Int), (xb : Int), true) from by simp only [h0, if_true, if_false, Bool.and_true, Bool.and_false, Bool.true_and, Bool.false_and, Bool.false_eq_true, Prod.mk.injEq] at hRR ⊢; obtain ⟨⟨a, b⟩, c⟩ := hRR; exact ⟨a, b, c⟩)
            obtain ⟨r1, r2, r3⟩ : ra = _ ∧ rb = _ ∧ rc = _ := ⟨(Prod.mk.inj HK.out).1, (Prod.mk.inj (Prod.mk.inj HK.out).2).1, (Prod.mk.inj (Prod.mk.inj HK.out).2).2⟩
            subst r1 r2 r3
            clear HK hRR
            go_enter Tryz.func145, Tryz.ntmps145
            go_wp2_with (first | (go_at_call 175; refine (hI _ (by exact ((Below.refl _ _).alloc (Nat.le_refl _) _).alloc (by simp) _)).mono ?_; rintro e w' ⟨rfl, rfl⟩) | (go_at_call 177; with_reducible refine (hPx _).mono ?_; rintro e w1 ⟨rfl, hB1⟩; obtain ⟨hc, hf⟩ := bcell hB1; have hz : w.heap.size + 1 < w1.heap.size := (by have hs := hB1.size; simp at hs; omega); have hy : w.heap.size < w1.heap.size := (by omega)))
            refine bodyPost_ret (v := .tuple #[.agg #[.int .i64 (ra), .int .i64 (rb)], .bool true]) (by simp [results, Tryz.results145, go_sem, hc, hz]) rfl ⟨rfl, ?_⟩
            have p1 : Below w.heap.size w w1 := (((Below.refl _ _).alloc (Nat.le_refl _) _).alloc (by simp) _).trans (hB1.mono (by first | (simp; done) | (simp; omega)))
            first | exact (p1.setCell (by simp) _).setCell (by simp) _ | exact ((below_alloc p1 _).setCell (by simp) _).setCell (by simp) _ | exact below_alloc ((p1.setCell (by simp) _).setCell (by simp) _) _
          | false =>
            cases pa with
            | true =>
              have HK := Lib.hid (show (ra, rb, rc) = ((pA : Int), (pb : Int), pB) from by simp only [h0, if_true, if_false, Bool.and_true, Bool.and_false, Bool.true_and, Bool.false_and, Bool.false_eq_true, Prod.mk.injEq] at hRR ⊢; obtain ⟨⟨a, b⟩, c⟩ := hRR; exact ⟨a, b, c⟩)
              obtain ⟨r1, r2, r3⟩ : ra = _ ∧ rb = _ ∧ rc = _ := ⟨(Prod.mk.inj HK.out).1, (Prod.mk.inj (Prod.mk.inj HK.out).2).1, (Prod.mk.inj (Prod.mk.inj HK.out).2).2⟩
              subst r1 r2 r3
              clear HK hRR
              go_enter Tryz.func145, Tryz.ntmps145
              go_wp2_with (first | (go_at_call 175; refine (hI _ (by exact ((Below.refl _ _).alloc (Nat.le_refl _) _).alloc (by simp) _)).mono ?_; rintro e w' ⟨rfl, rfl⟩) | (go_at_call 177; first | (with_reducible refine (hPx _).mono ?_; rintro e w1 ⟨rfl, hB1⟩; obtain ⟨hc, hf⟩ := bcell hB1; have hz : w.heap.size + 1 < w1.heap.size := (by have hs := hB1.size; simp at hs; omega); have hy : w.heap.size < w1.heap.size := (by omega)) | (with_reducible refine (hPc _).mono ?_; rintro e w2 ⟨rfl, hB2⟩; obtain ⟨hc2, hf2⟩ := bcell hB2; have hz2 : w.heap.size + 1 < w2.heap.size := (by have hs2 := hB2.size; simp at hs2; omega); have hy2 : w.heap.size < w2.heap.size := (by omega))))
              have k0 : w2.cell? ⟨w.heap.size + 1, 0, none⟩ = some (.int .i64 0) := by rw [hc2 _ _ (by simp; omega)]; simp [hc, hz, hy, World.cell?_alloc_past, go_sem]
              have k1 : w2.cell? ⟨w.heap.size + 1, 1, none⟩ = some (.int .i64 0) := by rw [hc2 _ _ (by simp; omega)]; simp [hc, hz, hy, World.cell?_alloc_past, go_sem]
              refine bodyPost_ret (v := .tuple #[.agg #[.int .i64 (ra), .int .i64 (rb)], .bool rc]) (by simp [results, Tryz.results145, go_sem, k0, k1]) rfl ⟨rfl, ?_⟩
              have p1 : Below w.heap.size w w1 := (((Below.refl _ _).alloc (Nat.le_refl _) _).alloc (by simp) _).trans (hB1.mono (by first | (simp; done) | (simp; omega)))
              have p2 : Below w.heap.size w w2 := by first | exact (below_alloc p1 _).trans (hB2.mono (by first | (simp; done) | (simp; omega))) | exact p1.trans (hB2.mono (by first | (simp; done) | (simp; omega)))
              exact (p2.setCell (by simp) _).setCell (by simp) _
            | false =>
              cases nu with
              | true =>
                have HK := Lib.hid (show (ra, rb, rc) = ((ua : Int), (ub : Int), uB) from by simp only [h0, if_true, if_false, Bool.and_true, Bool.and_false, Bool.true_and, Bool.false_and, Bool.false_eq_true, Prod.mk.injEq] at hRR ⊢; obtain ⟨⟨a, b⟩, c⟩ := hRR; exact ⟨a, b, c⟩)
                obtain ⟨r1, r2, r3⟩ : ra = _ ∧ rb = _ ∧ rc = _ := ⟨(Prod.mk.inj HK.out).1, (Prod.mk.inj (Prod.mk.inj HK.out).2).1, (Prod.mk.inj (Prod.mk.inj HK.out).2).2⟩
                subst r1 r2 r3
                clear HK hRR
                go_enter Tryz.func145, Tryz.ntmps145
                go_wp2_with (first | (go_at_call 175; refine (hI _ (by exact ((Below.refl _ _).alloc (Nat.le_refl _) _).alloc (by simp) _)).mono ?_; rintro e w' ⟨rfl, rfl⟩) | (go_at_call 177; first | (with_reducible refine (hPx _).mono ?_; rintro e w1 ⟨rfl, hB1⟩; obtain ⟨hc, hf⟩ := bcell hB1; have hz : w.heap.size + 1 < w1.heap.size := (by have hs := hB1.size; simp at hs; omega); have hy : w.heap.size < w1.heap.size := (by omega)) | (with_reducible refine (hNu _).mono ?_; rintro e w2 ⟨rfl, hB2⟩; obtain ⟨hc2, hf2⟩ := bcell hB2; have hz2 : w.heap.size + 1 < w2.heap.size := (by have hs2 := hB2.size; simp at hs2; omega); have hy2 : w.heap.size < w2.heap.size := (by omega))))
                have k0 : w2.cell? ⟨w.heap.size + 1, 0, none⟩ = some (.int .i64 0) := by rw [hc2 _ _ (by simp; omega)]; simp [hc, hz, hy, World.cell?_alloc_past, go_sem]
                have k1 : w2.cell? ⟨w.heap.size + 1, 1, none⟩ = some (.int .i64 0) := by rw [hc2 _ _ (by simp; omega)]; simp [hc, hz, hy, World.cell?_alloc_past, go_sem]
                refine bodyPost_ret (v := .tuple #[.agg #[.int .i64 (ra), .int .i64 (rb)], .bool rc]) (by simp [results, Tryz.results145, go_sem, k0, k1]) rfl ⟨rfl, ?_⟩
                have p1 : Below w.heap.size w w1 := (((Below.refl _ _).alloc (Nat.le_refl _) _).alloc (by simp) _).trans (hB1.mono (by first | (simp; done) | (simp; omega)))
                have p2 : Below w.heap.size w w2 := by first | exact (below_alloc p1 _).trans (hB2.mono (by first | (simp; done) | (simp; omega))) | exact p1.trans (hB2.mono (by first | (simp; done) | (simp; omega)))
                exact (p2.setCell (by simp) _).setCell (by simp) _
              | false =>
                as_aux_lemma =>
                have HK := Lib.hid (show (ra, rb, rc) = ((0 : Int), (0 : Int), false) from by simp only [h0, if_true, if_false, Bool.and_true, Bool.and_false, Bool.true_and, Bool.false_and, Bool.false_eq_true, Prod.mk.injEq] at hRR ⊢; obtain ⟨⟨a, b⟩, c⟩ := hRR; exact ⟨a, b, c⟩)
                obtain ⟨r1, r2, r3⟩ : ra = _ ∧ rb = _ ∧ rc = _ := ⟨(Prod.mk.inj HK.out).1, (Prod.mk.inj (Prod.mk.inj HK.out).2).1, (Prod.mk.inj (Prod.mk.inj HK.out).2).2⟩
                subst r1 r2 r3
                clear HK hRR
                go_enter Tryz.func145, Tryz.ntmps145
                go_wp2_with (first | (go_at_call 175; refine (hI _ (by exact ((Below.refl _ _).alloc (Nat.le_refl _) _).alloc (by simp) _)).mono ?_; rintro e w' ⟨rfl, rfl⟩) | (go_at_call 177; with_reducible refine (hPx _).mono ?_; rintro e w1 ⟨rfl, hB1⟩; obtain ⟨hc, hf⟩ := bcell hB1; have hz : w.heap.size + 1 < w1.heap.size := (by have hs := hB1.size; simp at hs; omega); have hy : w.heap.size < w1.heap.size := (by omega)))
                refine bodyPost_ret (v := .tuple #[.agg #[.int .i64 (0), .int .i64 (0)], .bool false]) (by simp [results, Tryz.results145, go_sem, hc, hz]) rfl ⟨rfl, ?_⟩
                have p1 : Below w.heap.size w w1 := (((Below.refl _ _).alloc (Nat.le_refl _) _).alloc (by simp) _).trans (hB1.mono (by first | (simp; done) | (simp; omega)))
                first | exact (p1.setCell (by simp) _).setCell (by simp) _ | exact ((below_alloc p1 _).setCell (by simp) _).setCell (by simp) _ | exact below_alloc ((p1.setCell (by simp) _).setCell (by simp) _) _
  | true =>
    cases qa with
    | true =>
      have HK := Lib.hid (show (ra, rb, rc) = ((1 : Int), (0 : Int), true) from by simp only [h0, if_true, if_false, Bool.and_true, Bool.and_false, Bool.true_and, Bool.false_and, Bool.false_eq_true, Prod.mk.injEq] at hRR ⊢; obtain ⟨⟨a, b⟩, c⟩ := hRR; exact ⟨a, b, c⟩)
      obtain ⟨r1, r2, r3⟩ : ra = _ ∧ rb = _ ∧ rc = _ := ⟨(Prod.mk.inj HK.out).1, (Prod.mk.inj (Prod.mk.inj HK.out).2).1, (Prod.mk.inj (Prod.mk.inj HK.out).2).2⟩
      subst r1 r2 r3
      clear HK hRR
      go_enter Tryz.func145, Tryz.ntmps145
      go_wp2_with (first | (go_at_call 175; refine (hI _ (by exact ((Below.refl _ _).alloc (Nat.le_refl _) _).alloc (by simp) _)).mono ?_; rintro e w' ⟨rfl, rfl⟩))
      refine bodyPost_ret (v := .tuple #[.agg #[.int .i64 (1), .int .i64 (0)], .bool true]) (by simp [results, Tryz.results145, go_sem]) rfl ⟨rfl, ?_⟩
      first | exact ((Below.refl _ _).alloc (Nat.le_refl _) _).alloc (by simp) _ | exact ((((Below.refl _ _).alloc (Nat.le_refl _) _).alloc (by simp) _).setCell (by simp) _).setCell (by simp) _
    | false =>
      cases le with
      | false =>
        cases co with
        | true =>
          have HK := Lib.hid (show (ra, rb, rc) = ((4 : Int), (cN : Int), cB) from by simp only [h0, if_true, if_false, Bool.and_true, Bool.and_false, Bool.true_and, Bool.false_and, Bool.false_eq_true, Prod.mk.injEq] at hRR ⊢; obtain ⟨⟨a, b⟩, c⟩ := hRR; exact ⟨a, b, c⟩)
          obtain ⟨r1, r2, r3⟩ : ra = _ ∧ rb = _ ∧ rc = _ := ⟨(Prod.mk.inj HK.out).1, (Prod.mk.inj (Prod.mk.inj HK.out).2).1, (Prod.mk.inj (Prod.mk.inj HK.out).2).2⟩
          subst r1 r2 r3
          clear HK hRR
          go_enter Tryz.func145, Tryz.ntmps145
          go_wp2_with (first | (go_at_call 175; refine (hI _ (by exact ((Below.refl _ _).alloc (Nat.le_refl _) _).alloc (by simp) _)).mono ?_; rintro e w' ⟨rfl, rfl⟩) | (go_at_call 176; refine (hCol _).mono ?_; rintro e w1 ⟨rfl, hB1⟩; obtain ⟨hc, hf⟩ := bcell hB1; have hz : w.heap.size + 1 < w1.heap.size := (by have hs := hB1.size; simp at hs; omega); have hy : w.heap.size < w1.heap.size := (by omega)))
          refine bodyPost_ret (v := .tuple #[.agg #[.int .i64 (4), .int .i64 (rb)], .bool rc]) (by simp [results, Tryz.results145, go_sem, hc, hz]) rfl ⟨rfl, ?_⟩
          have p1 : Below w.heap.size w w1 := (((Below.refl _ _).alloc (Nat.le_refl _) _).alloc (by simp) _).trans (hB1.mono (by first | (simp; done) | (simp; omega)))
          first | exact (p1.setCell (by simp) _).setCell (by simp) _ | exact ((below_alloc p1 _).setCell (by simp) _).setCell (by simp) _ | exact below_alloc ((p1.setCell (by simp) _).setCell (by simp) _) _
        | false =>
          cases pa with
          | true =>
            have HK := Lib.hid (show (ra, rb, rc) = ((pA : Int), (pb : Int), pB) from by simp only [h0, if_true, if_false, Bool.and_true, Bool.and_false, Bool.true_and, Bool.false_and, Bool.false_eq_true, Prod.mk.injEq] at hRR ⊢; obtain ⟨⟨a, b⟩, c⟩ := hRR; exact ⟨a, b, c⟩)
            obtain ⟨r1, r2, r3⟩ : ra = _ ∧ rb = _ ∧ rc = _ := ⟨(Prod.mk.inj HK.out).1, (Prod.mk.inj (Prod.mk.inj HK.out).2).1, (Prod.mk.inj (Prod.mk.inj HK.out).2).2⟩
            subst r1 r2 r3
            clear HK hRR
            go_enter Tryz.func145, Tryz.ntmps145
            go_wp2_with (first | (go_at_call 175; refine (hI _ (by exact ((Below.refl _ _).alloc (Nat.le_refl _) _).alloc (by simp) _)).mono ?_; rintro e w' ⟨rfl, rfl⟩) | (go_at_call 177; with_reducible refine (hPc _).mono ?_; rintro e w1 ⟨rfl, hB1⟩; obtain ⟨hc, hf⟩ := bcell hB1; have hz : w.heap.size + 1 < w1.heap.size := (by have hs := hB1.size; simp at hs; omega); have hy : w.heap.size < w1.heap.size := (by omega)))
            refine bodyPost_ret (v := .tuple #[.agg #[.int .i64 (ra), .int .i64 (rb)], .bool rc]) (by simp [results, Tryz.results145, go_sem, hc, hz]) rfl ⟨rfl, ?_⟩
            have p1 : Below w.heap.size w w1 := (((Below.refl _ _).alloc (Nat.le_refl _) _).alloc (by simp) _).trans (hB1.mono (by first | (simp; done) | (simp; omega)))
            first | exact (p1.setCell (by simp) _).setCell (by simp) _ | exact ((below_alloc p1 _).setCell (by simp) _).setCell (by simp) _ | exact below_alloc ((p1.setCell (by simp) _).setCell (by simp) _) _
          | false =>
            cases nu with
            | true =>
              have HK := Lib.hid (show (ra, rb, rc) = ((ua : Int), (ub : Int), uB) from by simp only [h0, if_true, if_false, Bool.and_true, Bool.and_false, Bool.true_and, Bool.false_and, Bool.false_eq_true, Prod.mk.injEq] at hRR ⊢; obtain ⟨⟨a, b⟩, c⟩ := hRR; exact ⟨a, b, c⟩)
              obtain ⟨r1, r2, r3⟩ : ra = _ ∧ rb = _ ∧ rc = _ := ⟨(Prod.mk.inj HK.out).1, (Prod.mk.inj (Prod.mk.inj HK.out).2).1, (Prod.mk.inj (Prod.mk.inj HK.out).2).2⟩
              subst r1 r2 r3
              clear HK hRR
              go_enter Tryz.func145, Tryz.ntmps145
              go_wp2_with (first | (go_at_call 175; refine (hI _ (by exact ((Below.refl _ _).alloc (Nat.le_refl _) _).alloc (by simp) _)).mono ?_; rintro e w' ⟨rfl, rfl⟩) | (go_at_call 177; with_reducible refine (hNu _).mono ?_; rintro e w1 ⟨rfl, hB1⟩; obtain ⟨hc, hf⟩ := bcell hB1; have hz : w.heap.size + 1 < w1.heap.size := (by have hs := hB1.size; simp at hs; omega); have hy : w.heap.size < w1.heap.size := (by omega)))
              refine bodyPost_ret (v := .tuple #[.agg #[.int .i64 (ra), .int .i64 (rb)], .bool rc]) (by simp [results, Tryz.results145, go_sem, hc, hz]) rfl ⟨rfl, ?_⟩
              have p1 : Below w.heap.size w w1 := (((Below.refl _ _).alloc (Nat.le_refl _) _).alloc (by simp) _).trans (hB1.mono (by first | (simp; done) | (simp; omega)))
              first | exact (p1.setCell (by simp) _).setCell (by simp) _ | exact ((below_alloc p1 _).setCell (by simp) _).setCell (by simp) _ | exact below_alloc ((p1.setCell (by simp) _).setCell (by simp) _) _
            | false =>
              as_aux_lemma =>
              have HK := Lib.hid (show (ra, rb, rc) = ((0 : Int), (0 : Int), false) from by simp only [h0, if_true, if_false, Bool.and_true, Bool.and_false, Bool.true_and, Bool.false_and, Bool.false_eq_true, Prod.mk.injEq] at hRR ⊢; obtain ⟨⟨a, b⟩, c⟩ := hRR; exact ⟨a, b, c⟩)
              obtain ⟨r1, r2, r3⟩ : ra = _ ∧ rb = _ ∧ rc = _ := ⟨(Prod.mk.inj HK.out).1, (Prod.mk.inj (Prod.mk.inj HK.out).2).1, (Prod.mk.inj (Prod.mk.inj HK.out).2).2⟩
              subst r1 r2 r3
              clear HK hRR
              go_enter Tryz.func145, Tryz.ntmps145
              go_wp2_with (first | (go_at_call 175; refine (hI _ (by exact ((Below.refl _ _).alloc (Nat.le_refl _) _).alloc (by simp) _)).mono ?_; rintro e w' ⟨rfl, rfl⟩))
              refine bodyPost_ret (v := .tuple #[.agg #[.int .i64 (0), .int .i64 (0)], .bool false]) (by simp [results, Tryz.results145, go_sem]) rfl ⟨rfl, ?_⟩
              first | exact ((Below.refl _ _).alloc (Nat.le_refl _) _).alloc (by simp) _ | exact ((((Below.refl _ _).alloc (Nat.le_refl _) _).alloc (by simp) _).setCell (by simp) _).setCell (by simp) _
      | true =>
        cases qz with
        | true =>
          have HK := Lib.hid (show (ra, rb, rc) = ((2 : Int), (0 : Int), true) from by simp only [h0, if_true, if_false, Bool.and_true, Bool.and_false, Bool.true_and, Bool.false_and, Bool.false_eq_true, Prod.mk.injEq] at hRR ⊢; obtain ⟨⟨a, b⟩, c⟩ := hRR; exact ⟨a, b, c⟩)
          obtain ⟨r1, r2, r3⟩ : ra = _ ∧ rb = _ ∧ rc = _ := ⟨(Prod.mk.inj HK.out).1, (Prod.mk.inj (Prod.mk.inj HK.out).2).1, (Prod.mk.inj (Prod.mk.inj HK.out).2).2⟩
          subst r1 r2 r3
          clear HK hRR
          go_enter Tryz.func145, Tryz.ntmps145
          go_wp2_with (first | (go_at_call 175; refine (hI _ (by exact ((Below.refl _ _).alloc (Nat.le_refl _) _).alloc (by simp) _)).mono ?_; rintro e w' ⟨rfl, rfl⟩))
          refine bodyPost_ret (v := .tuple #[.agg #[.int .i64 (2), .int .i64 (0)], .bool true]) (by simp [results, Tryz.results145, go_sem]) rfl ⟨rfl, ?_⟩
          first | exact ((Below.refl _ _).alloc (Nat.le_refl _) _).alloc (by simp) _ | exact ((((Below.refl _ _).alloc (Nat.le_refl _) _).alloc (by simp) _).setCell (by simp) _).setCell (by simp) _
        | false =>
          cases co with
          | true =>
            have HK := Lib.hid (show (ra, rb, rc) = ((4 : Int), (cN : Int), cB) from by simp only [h0, if_true, if_false, Bool.and_true, Bool.and_false, Bool.true_and, Bool.false_and, Bool.false_eq_true, Prod.mk.injEq] at hRR ⊢; obtain ⟨⟨a, b⟩, c⟩ := hRR; exact ⟨a, b, c⟩)
            obtain ⟨r1, r2, r3⟩ : ra = _ ∧ rb = _ ∧ rc = _ := ⟨(Prod.mk.inj HK.out).1, (Prod.mk.inj (Prod.mk.inj HK.out).2).1, (Prod.mk.inj (Prod.mk.inj HK.out).2).2⟩
            subst r1 r2 r3
            clear HK hRR
            go_enter Tryz.func145, Tryz.ntmps145
            go_wp2_with (first | (go_at_call 175; refine (hI _ (by exact ((Below.refl _ _).alloc (Nat.le_refl _) _).alloc (by simp) _)).mono ?_; rintro e w' ⟨rfl, rfl⟩) | (go_at_call 176; refine (hCol _).mono ?_; rintro e w1 ⟨rfl, hB1⟩; obtain ⟨hc, hf⟩ := bcell hB1; have hz : w.heap.size + 1 < w1.heap.size := (by have hs := hB1.size; simp at hs; omega); have hy : w.heap.size < w1.heap.size := (by omega)))
            refine bodyPost_ret (v := .tuple #[.agg #[.int .i64 (4), .int .i64 (rb)], .bool rc]) (by simp [results, Tryz.results145, go_sem, hc, hz]) rfl ⟨rfl, ?_⟩
            have p1 : Below w.heap.size w w1 := (((Below.refl _ _).alloc (Nat.le_refl _) _).alloc (by simp) _).trans (hB1.mono (by first | (simp; done) | (simp; omega)))
            first | exact (p1.setCell (by simp) _).setCell (by simp) _ | exact ((below_alloc p1 _).setCell (by simp) _).setCell (by simp) _ | exact below_alloc ((p1.setCell (by simp) _).setCell (by simp) _) _
          | false =>
            cases xB with
            | true =>
              have HK := Lib.hid (show (ra, rb, rc) = ((xa : Int), (xb : Int), true) from by simp only [h0, if_true, if_false, Bool.and_true, Bool.and_false, Bool.true_and, Bool.false_and, Bool.false_eq_true, Prod.mk.injEq] at hRR ⊢; obtain ⟨⟨a, b⟩, c⟩ := hRR; exact ⟨a, b, c⟩)
              obtain ⟨r1, r2, r3⟩ : ra = _ ∧ rb = _ ∧ rc = _ := ⟨(Prod.mk.inj HK.out).1, (Prod.mk.inj (Prod.mk.inj HK.out).2).1, (Prod.mk.inj (Prod.mk.inj HK.out).2).2⟩
              subst r1 r2 r3
              clear HK hRR
              go_enter Tryz.func145, Tryz.ntmps145
              go_wp2_with (first | (go_at_call 175; refine (hI _ (by exact ((Below.refl _ _).alloc (Nat.le_refl _) _).alloc (by simp) _)).mono ?_; rintro e w' ⟨rfl, rfl⟩) | (go_at_call 177; with_reducible refine (hPx _).mono ?_; rintro e w1 ⟨rfl, hB1⟩; obtain ⟨hc, hf⟩ := bcell hB1; have hz : w.heap.size + 1 < w1.heap.size := (by have hs := hB1.size; simp at hs; omega); have hy : w.heap.size < w1.heap.size := (by omega)))
              refine bodyPost_ret (v := .tuple #[.agg #[.int .i64 (ra), .int .i64 (rb)], .bool true]) (by simp [results, Tryz.results145, go_sem, hc, hz]) rfl ⟨rfl, ?_⟩
              have p1 : Below w.heap.size w w1 := (((Below.refl _ _).alloc (Nat.le_refl _) _).alloc (by simp) _).trans (hB1.mono (by first | (simp; done) | (simp; omega)))
              first | exact (p1.setCell (by simp) _).setCell (by simp) _ | exact ((below_alloc p1 _).setCell (by simp) _).setCell (by simp) _ | exact below_alloc ((p1.setCell (by simp) _).setCell (by simp) _) _
            | false =>
              cases pa with
              | true =>
                have HK := Lib.hid (show (ra, rb, rc) = ((pA : Int), (pb : Int), pB) from by simp only [h0, if_true, if_false, Bool.and_true, Bool.and_false, Bool.true_and, Bool.false_and, Bool.false_eq_true, Prod.mk.injEq] at hRR ⊢; obtain ⟨⟨a, b⟩, c⟩ := hRR; exact ⟨a, b, c⟩)
                obtain ⟨r1, r2, r3⟩ : ra = _ ∧ rb = _ ∧ rc = _ := ⟨(Prod.mk.inj HK.out).1, (Prod.mk.inj (Prod.mk.inj HK.out).2).1, (Prod.mk.inj (Prod.mk.inj HK.out).2).2⟩
                subst r1 r2 r3
                clear HK hRR
                go_enter Tryz.func145, Tryz.ntmps145
                go_wp2_with (first | (go_at_call 175; refine (hI _ (by exact ((Below.refl _ _).alloc (Nat.le_refl _) _).alloc (by simp) _)).mono ?_; rintro e w' ⟨rfl, rfl⟩) | (go_at_call 177; first | (with_reducible refine (hPx _).mono ?_; rintro e w1 ⟨rfl, hB1⟩; obtain ⟨hc, hf⟩ := bcell hB1; have hz : w.heap.size + 1 < w1.heap.size := (by have hs := hB1.size; simp at hs; omega); have hy : w.heap.size < w1.heap.size := (by omega)) | (with_reducible refine (hPc _).mono ?_; rintro e w2 ⟨rfl, hB2⟩; obtain ⟨hc2, hf2⟩ := bcell hB2; have hz2 : w.heap.size + 1 < w2.heap.size := (by have hs2 := hB2.size; simp at hs2; omega); have hy2 : w.heap.size < w2.heap.size := (by omega))))
                have k0 : w2.cell? ⟨w.heap.size + 1, 0, none⟩ = some (.int .i64 0) := by rw [hc2 _ _ (by simp; omega)]; simp [hc, hz, hy, World.cell?_alloc_past, go_sem]
                have k1 : w2.cell? ⟨w.heap.size + 1, 1, none⟩ = some (.int .i64 0) := by rw [hc2 _ _ (by simp; omega)]; simp [hc, hz, hy, World.cell?_alloc_past, go_sem]
                refine bodyPost_ret (v := .tuple #[.agg #[.int .i64 (ra), .int .i64 (rb)], .bool rc]) (by simp [results, Tryz.results145, go_sem, k0, k1]) rfl ⟨rfl, ?_⟩
                have p1 : Below w.heap.size w w1 := (((Below.refl _ _).alloc (Nat.le_refl _) _).alloc (by simp) _).trans (hB1.mono (by first | (simp; done) | (simp; omega)))
                have p2 : Below w.heap.size w w2 := by first | exact (below_alloc p1 _).trans (hB2.mono (by first | (simp; done) | (simp; omega))) | exact p1.trans (hB2.mono (by first | (simp; done) | (simp; omega)))
                exact (p2.setCell (by simp) _).setCell (by simp) _
              | false =>
                cases nu with
                | true =>
                  have HK := Lib.hid (show (ra, rb, rc) = ((ua : Int), (ub : Int), uB) from by simp only [h0, if_true, if_false, Bool.and_true, Bool.and_false, Bool.true_and, Bool.false_and, Bool.false_eq_true, Prod.mk.injEq] at hRR ⊢; obtain ⟨⟨a, b⟩, c⟩ := hRR; exact ⟨a, b, c⟩)
                  obtain ⟨r1, r2, r3⟩ : ra = _ ∧ rb = _ ∧ rc = _ := ⟨(Prod.mk.inj HK.out).1, (Prod.mk.inj (Prod.mk.inj HK.out).2).1, (Prod.mk.inj (Prod.mk.inj HK.out).2).2⟩
                  subst r1 r2 r3
                  clear HK hRR
                  go_enter Tryz.func145, Tryz.ntmps145
                  go_wp2_with (first | (go_at_call 175; refine (hI _ (by exact ((Below.refl _ _).alloc (Nat.le_refl _) _).alloc (by simp) _)).mono ?_; rintro e w' ⟨rfl, rfl⟩) | (go_at_call 177; first | (with_reducible refine (hPx _).mono ?_; rintro e w1 ⟨rfl, hB1⟩; obtain ⟨hc, hf⟩ := bcell hB1; have hz : w.heap.size + 1 < w1.heap.size := (by have hs := hB1.size; simp at hs; omega); have hy : w.heap.size < w1.heap.size := (by omega)) | (with_reducible refine (hNu _).mono ?_; rintro e w2 ⟨rfl, hB2⟩; obtain ⟨hc2, hf2⟩ := bcell hB2; have hz2 : w.heap.size + 1 < w2.heap.size := (by have hs2 := hB2.size; simp at hs2; omega); have hy2 : w.heap.size < w2.heap.size := (by omega))))
                  have k0 : w2.cell? ⟨w.heap.size + 1, 0, none⟩ = some (.int .i64 0) := by rw [hc2 _ _ (by simp; omega)]; simp [hc, hz, hy, World.cell?_alloc_past, go_sem]
                  have k1 : w2.cell? ⟨w.heap.size + 1, 1, none⟩ = some (.int .i64 0) := by rw [hc2 _ _ (by simp; omega)]; simp [hc, hz, hy, World.cell?_alloc_past, go_sem]
                  refine bodyPost_ret (v := .tuple #[.agg #[.int .i64 (ra), .int .i64 (rb)], .bool rc]) (by simp [results, Tryz.results145, go_sem, k0, k1]) rfl ⟨rfl, ?_⟩
                  have p1 : Below w.heap.size w w1 := (((Below.refl _ _).alloc (Nat.le_refl _) _).alloc (by simp) _).trans (hB1.mono (by first | (simp; done) | (simp; omega)))
                  have p2 : Below w.heap.size w w2 := by first | exact (below_alloc p1 _).trans (hB2.mono (by first | (simp; done) | (simp; omega))) | exact p1.trans (hB2.mono (by first | (simp; done) | (simp; omega)))
                  exact (p2.setCell (by simp) _).setCell (by simp) _
                | false =>
                  as_aux_lemma =>
                  have HK := Lib.hid (show (ra, rb, rc) = ((0 : Int), (0 : Int), false) from by simp only [h0, if_true, if_false, Bool.and_true, Bool.and_false, Bool.true_and, Bool.false_and, Bool.false_eq_true, Prod.mk.injEq] at hRR ⊢; obtain ⟨⟨a, b⟩, c⟩ := hRR; exact ⟨a, b, c⟩)
                  obtain ⟨r1, r2, r3⟩ : ra = _ ∧ rb = _ ∧ rc = _ := ⟨(Prod.mk.inj HK.out).1, (Prod.mk.inj (Prod.mk.inj HK.out).2).1, (Prod.mk.inj (Prod.mk.inj HK.out).2).2⟩
                  subst r1 r2 r3
                  clear HK hRR
                  go_enter Tryz.func145, Tryz.ntmps145
                  go_wp2_with (first | (go_at_call 175; refine (hI _ (by exact ((Below.refl _ _).alloc (Nat.le_refl _) _).alloc (by simp) _)).mono ?_; rintro e w' ⟨rfl, rfl⟩) | (go_at_call 177; with_reducible refine (hPx _).mono ?_; rintro e w1 ⟨rfl, hB1⟩; obtain ⟨hc, hf⟩ := bcell hB1; have hz : w.heap.size + 1 < w1.heap.size := (by have hs := hB1.size; simp at hs; omega); have hy : w.heap.size < w1.heap.size := (by omega)))
                  refine bodyPost_ret (v := .tuple #[.agg #[.int .i64 (0), .int .i64 (0)], .bool false]) (by simp [results, Tryz.results145, go_sem, hc, hz]) rfl ⟨rfl, ?_⟩
                  have p1 : Below w.heap.size w w1 := (((Below.refl _ _).alloc (Nat.le_refl _) _).alloc (by simp) _).trans (hB1.mono (by first | (simp; done) | (simp; omega)))
                  first | exact (p1.setCell (by simp) _).setCell (by simp) _ | exact ((below_alloc p1 _).setCell (by simp) _).setCell (by simp) _ | exact below_alloc ((p1.setCell (by simp) _).setCell (by simp) _) _
end Go.Proofs.Val
