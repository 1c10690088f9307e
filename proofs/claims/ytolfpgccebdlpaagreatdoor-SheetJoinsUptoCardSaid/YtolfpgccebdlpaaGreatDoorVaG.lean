/- The value that any text is of a sort: contract proved by walking its text; no condition beside those that the theorem states. Printed by a program of this session (vag.py). -/
import Derived.Test.YtolfpgccebdlpaaGreatDoorVaB
import Derived.Deep.RegionHeld3
import Derived.Test.YtolfpgccebdlpaaGreatDoorScC
import Derived.Test.YtolfpgccebdlpaaGreatDoorTkB
set_option linter.unusedVariables false
set_option linter.unusedSimpArgs false
namespace Go.Proofs.Val
open Go.RowKit Go.Proofs Go.Proofs.YtolfpgccebdlpaaGreatDoorW.PrintWords
def autoW : List UInt8 := [97, 117, 116, 111]
def anyR (au le pa co nu : Bool) (ws : List ByteArray) (l : List UInt8) : (Int × Int) × Bool :=
  if 0 ≤ Lib.idxOfS ws ⟨l.toArray⟩ then ((5, Lib.idxOfS ws ⟨l.toArray⟩), true)
  else if (au && decide (l = autoW)) = true then ((1, 0), true)
  else if (le && decide (l = [48])) = true then ((2, 0), true)
  else if co = true then ((4, colN l), colOk l)
  else if (le && measOk l [112, 120]) = true then (measV l [112, 120] 2, true)
  else if pa = true then (measV l [37] 3, measOk l [37])
  else if nu = true then (measV l [] 6, measOk l [])
  else ((0, 0), false)
theorem beq_dec (l m : List UInt8) : (l == m) = decide (l = m) := by
  by_cases h : l = m
  · rw [decide_eq_true h, h]; simp
  · rw [decide_eq_false h]; exact beq_eq_false_iff_ne.2 h
theorem idxS_bd (ws : List ByteArray) (s : ByteArray) : -1 ≤ Lib.idxOfS ws s ∧ Lib.idxOfS ws s < ws.length + 1 := by
  have := idxFrom_bd s ws 0
  unfold Lib.idxOfS
  omega
set_option maxHeartbeats 8000000 in
set_option maxRecDepth 100000 in
theorem anyC (nm : ByteArray) (au le pa be co nu : Bool) (wa : Option Addr) (ws : List ByteArray) (kk nn : Int) (l : List UInt8) (w : World) (hw : WordsIn w wa ws) (hws : ws.length ≤ 4) (hs : l.length < 4294967281) :
    Calls Tryz.prog 145 #[.agg #[.string nm, .bool au, .bool le, .bool pa, .bool be, .bool co, .bool nu, .slice wa ws.length ws.length, .int .i64 kk, .int .i64 nn], .string ⟨l.toArray⟩] w fun e w' =>
      e = .returned (.tuple #[.agg #[.int .i64 (anyR au le pa co nu ws l).1.1, .int .i64 (anyR au le pa co nu ws l).1.2], .bool (anyR au le pa co nu ws l).2]) ∧ Below w.heap.size w w' := by
  have hI : ∀ W, Below w.heap.size w W → Calls Tryz.prog 175 #[.slice wa ws.length ws.length, .string ⟨l.toArray⟩] W fun e w' => e = .returned (.int .i64 (Lib.idxOfS ws ⟨l.toArray⟩)) ∧ w' = W := by
    intro W hW
    rcases (hw.below hW).at_ with rfl | ⟨b, rfl, hc⟩
    · exact Tryz.slices_Index_string_empty wa 0 _ W
    · have := Tryz.slices_Index_string b 0 ws.length ws.length ws ⟨l.toArray⟩ W (Nat.le_refl _) (by omega) hc
      rwa [List.take_length] at this
  have hCol := fun w => colorC l w hs
  have hPx := fun w => measureC l [112, 120] 2 w hs
  have hPc := fun w => measureC l [37] 3 w hs
  have hNu := fun w => measureC l [] 6 w hs
  have hR := Lib.hid (show anyR au le pa co nu ws l = (if 0 ≤ Lib.idxOfS ws ⟨l.toArray⟩ then ((5, Lib.idxOfS ws ⟨l.toArray⟩), true)
    else if (au && decide (l = autoW)) = true then ((1, 0), true)
    else if (le && decide (l = [48])) = true then ((2, 0), true)
    else if co = true then ((4, colN l), colOk l)
    else if (le && measOk l [112, 120]) = true then (measV l [112, 120] 2, true)
    else if pa = true then (measV l [37] 3, measOk l [37])
    else if nu = true then (measV l [] 6, measOk l [])
    else ((0, 0), false)) from rfl)
  have hbd := idxS_bd ws ⟨l.toArray⟩
  have hqx : measOk l [112, 120] = true → (measV l [112, 120] 2).1 = 2 := fun h => by unfold measV; rw [if_pos h]
  obtain ⟨i, hi⟩ : ∃ i, Lib.idxOfS ws ⟨l.toArray⟩ = i := ⟨_, rfl⟩
  obtain ⟨⟨⟨ra, rb⟩, rc⟩, hr⟩ : ∃ r, anyR au le pa co nu ws l = r := ⟨_, rfl⟩
  have ea : ((⟨l.toArray⟩ : ByteArray).toList == [97, 117, 116, 111]) = decide (l = autoW) := by rw [Lib.toList_data]; exact beq_dec _ _
  have ez : ((⟨l.toArray⟩ : ByteArray).toList == [48]) = decide (l = [48]) := by rw [Lib.toList_data]; exact beq_dec _ _
  obtain ⟨qa, hqa⟩ : ∃ q, decide (l = autoW) = q := ⟨_, rfl⟩
  obtain ⟨qz, hqz⟩ : ∃ q, decide (l = [48]) = q := ⟨_, rfl⟩
  obtain ⟨cN, hcN⟩ : ∃ q, colN l = q := ⟨_, rfl⟩
  obtain ⟨cB, hcB⟩ : ∃ q, colOk l = q := ⟨_, rfl⟩
  obtain ⟨⟨xa, xb⟩, hxV⟩ : ∃ q, measV l [112, 120] 2 = q := ⟨_, rfl⟩
  obtain ⟨xB, hxB⟩ : ∃ q, measOk l [112, 120] = q := ⟨_, rfl⟩
  obtain ⟨⟨pA, pb⟩, hpV⟩ : ∃ q, measV l [37] 3 = q := ⟨_, rfl⟩
  obtain ⟨pB, hpB⟩ : ∃ q, measOk l [37] = q := ⟨_, rfl⟩
  obtain ⟨⟨ua, ub⟩, huV⟩ : ∃ q, measV l [] 6 = q := ⟨_, rfl⟩
  obtain ⟨uB, huB⟩ : ∃ q, measOk l [] = q := ⟨_, rfl⟩
  have hRR := hR.out
  rw [hr, hi, hqa, hqz, hcN, hcB, hxV, hxB, hpV, hpB, huV, huB] at hRR
  rw [hr]
  simp only [hi] at hI
  rw [hi] at hbd
  simp only [hcN, hcB] at hCol
  simp only [hxV, hxB] at hPx
  simp only [hpV, hpB] at hPc
  simp only [huV, huB] at hNu
  rw [hqa] at ea
  rw [hqz] at ez
  clear hR hr hi hqa hqz hcN hcB hxV hxB hpV hpB huV huB hw hqx hs
  generalize (⟨l.toArray⟩ : ByteArray) = s at hI hCol hPx hPc hNu ea ez ⊢
  obtain ⟨n, hn⟩ : ∃ n, ws.length = n := ⟨_, rfl⟩
  rw [hn] at hI hbd hws ⊢
  clear hn
  by_cases h0 : 0 ≤ i
  · skip
    have d0 : decide (0 ≤ i) = true := decide_eq_true h0
    have HK := Lib.hid (show (ra, rb, rc) = ((5 : Int), (i : Int), true) from by simp only [h0, if_true, if_false, Bool.and_true, Bool.and_false, Bool.true_and, Bool.false_and, Bool.false_eq_true, Prod.mk.injEq] at hRR ⊢; obtain ⟨⟨a, b⟩, c⟩ := hRR; exact ⟨a, b, c⟩)
    obtain ⟨r1, r2, r3⟩ : ra = _ ∧ rb = _ ∧ rc = _ := ⟨(Prod.mk.inj HK.out).1, (Prod.mk.inj (Prod.mk.inj HK.out).2).1, (Prod.mk.inj (Prod.mk.inj HK.out).2).2⟩
    subst r1 r2 r3
    clear HK hRR
    go_enter Tryz.func145, Tryz.ntmps145
    go_wp2_with (first | (go_at_call 175; refine (hI _ (by exact ((Below.refl _ _).alloc (Nat.le_refl _) _).alloc (by simp) _)).mono ?_; rintro e w' ⟨rfl, rfl⟩))
    refine bodyPost_ret (v := .tuple #[.agg #[.int .i64 (5), .int .i64 (rb)], .bool true]) (by simp [results, Tryz.results145, go_sem]) rfl ⟨rfl, ?_⟩
    first | exact ((Below.refl _ _).alloc (Nat.le_refl _) _).alloc (by simp) _ | exact ((((Below.refl _ _).alloc (Nat.le_refl _) _).alloc (by simp) _).setCell (by simp) _).setCell (by simp) _
  have d0 : decide (0 ≤ i) = false := decide_eq_false h0
  cases au with
  | false =>
    cases le with
    | false =>
      cases co with
      | true =>
        have HK := Lib.hid (show (ra, rb, rc) = ((4 : Int), (cN : Int), cB) from by simp only [h0, if_true, if_false, Bool.and_true, Bool.and_false, Bool.true_and, Bool.false_and, Bool.false_eq_true, Prod.mk.injEq] at hRR ⊢; obtain ⟨⟨a, b⟩, c⟩ := hRR; exact ⟨a, b, c⟩)
        obtain ⟨r1, r2, r3⟩ : ra = _ ∧ rb = _ ∧ rc = _ := ⟨(Prod.mk.inj HK.out).1, (Prod.mk.inj (Prod.mk.inj HK.out).2).1, (Prod.mk.inj (Prod.mk.inj HK.out).2).2⟩
        subst r1 r2 r3
        clear HK hRR
        go_enter Tryz.func145, Tryz.ntmps145
        go_wp2_with (first | (go_at_call 175; refine (hI _ (by exact ((Below.refl _ _).alloc (Nat.le_refl _) _).alloc (by simp) _)).mono ?_; rintro e w' ⟨rfl, rfl⟩) | (go_at_call 176; refine (hCol _).mono ?_; rintro e w1 ⟨rfl, hB1⟩; obtain ⟨hc, hf⟩ := bcell hB1; have hz : w.heap.size + 1 < w1.heap.size := (by have hs := hB1.size; simp at hs; omega); have hy : w.heap.size < w1.heap.size := (by omega)))
        refine bodyPost_ret (v := .tuple #[.agg #[.int .i64 (4), .int .i64 (rb)], .bool rc]) (by simp [results, Tryz.results145, go_sem, hc, hz]) rfl ⟨rfl, ?_⟩
        have p1 : Below w.heap.size w w1 := (((Below.refl _ _).alloc (Nat.le_refl _) _).alloc (by simp) _).trans (hB1.mono (by first | (simp; done) | (simp; omega)))
        first | exact (p1.setCell (by simp) _).setCell (by simp) _ | exact ((below_alloc p1 _).setCell (by simp) _).setCell (by simp) _ | exact below_alloc ((p1.setCell (by simp) _).setCell (by simp) _) _
      | false =>
        cases pa with
        | true =>
          have HK := Lib.hid (show (ra, rb, rc) = ((pA : Int), (pb : Int), pB) from by simp only [h0, if_true, if_false, Bool.and_true, Bool.and_false, Bool.true_and, Bool.false_and, Bool.false_eq_true, Prod.mk.injEq] at hRR ⊢; obtain ⟨⟨a, b⟩, c⟩ := hRR; exact ⟨a, b, c⟩)
          obtain ⟨r1, r2, r3⟩ : ra = _ ∧ rb = _ ∧ rc = _ := ⟨(Prod.mk.inj HK.out).1, (Prod.mk.inj (Prod.mk.inj HK.out).2).1, (Prod.mk.inj (Prod.mk.inj HK.out).2).2⟩
          subst r1 r2 r3
          clear HK hRR
          go_enter Tryz.func145, Tryz.ntmps145
          go_wp2_with (first | (go_at_call 175; refine (hI _ (by exact ((Below.refl _ _).alloc (Nat.le_refl _) _).alloc (by simp) _)).mono ?_; rintro e w' ⟨rfl, rfl⟩) | (go_at_call 177; with_reducible refine (hPc _).mono ?_; rintro e w1 ⟨rfl, hB1⟩; obtain ⟨hc, hf⟩ := bcell hB1; have hz : w.heap.size + 1 < w1.heap.size := (by have hs := hB1.size; simp at hs; omega); have hy : w.heap.size < w1.heap.size := (by omega)))
          refine bodyPost_ret (v := .tuple #[.agg #[.int .i64 (ra), .int .i64 (rb)], .bool rc]) (by simp [results, Tryz.results145, go_sem, hc, hz]) rfl ⟨rfl, ?_⟩
          have p1 : Below w.heap.size w w1 := (((Below.refl _ _).alloc (Nat.le_refl _) _).alloc (by simp) _).trans (hB1.mono (by first | (simp; done) | (simp; omega)))
          first | exact (p1.setCell (by simp) _).setCell (by simp) _ | exact ((below_alloc p1 _).setCell (by simp) _).setCell (by simp) _ | exact below_alloc ((p1.setCell (by simp) _).setCell (by simp) _) _
        | false =>
          cases nu with
          | true =>
            have HK := Lib.hid (show (ra, rb, rc) = ((ua : Int), (ub : Int), uB) from by simp only [h0, if_true, if_false, Bool.and_true, Bool.and_false, Bool.true_and, Bool.false_and, Bool.false_eq_true, Prod.mk.injEq] at hRR ⊢; obtain ⟨⟨a, b⟩, c⟩ := hRR; exact ⟨a, b, c⟩)
            obtain ⟨r1, r2, r3⟩ : ra = _ ∧ rb = _ ∧ rc = _ := ⟨(Prod.mk.inj HK.out).1, (Prod.mk.inj (Prod.mk.inj HK.out).2).1, (Prod.mk.inj (Prod.mk.inj HK.out).2).2⟩
            subst r1 r2 r3
            clear HK hRR
            go_enter Tryz.func145, Tryz.ntmps145
            go_wp2_with (first | (go_at_call 175; refine (hI _ (by exact ((Below.refl _ _).alloc (Nat.le_refl _) _).alloc (by simp) _)).mono ?_; rintro e w' ⟨rfl, rfl⟩) | (go_at_call 177; with_reducible refine (hNu _).mono ?_; rintro e w1 ⟨rfl, hB1⟩; obtain ⟨hc, hf⟩ := bcell hB1; have hz : w.heap.size + 1 < w1.heap.size := (by have hs := hB1.size; simp at hs; omega); have hy : w.heap.size < w1.heap.size := (by omega)))
            refine bodyPost_ret (v := .tuple #[.agg #[.int .i64 (ra), .int .i64 (rb)], .bool rc]) (by simp [results, Tryz.results145, go_sem, hc, hz]) rfl ⟨rfl, ?_⟩
            have p1 : Below w.heap.size w w1 := (((Below.refl _ _).alloc (Nat.le_refl _) _).alloc (by simp) _).trans (hB1.mono (by first | (simp; done) | (simp; omega)))
            first | exact (p1.setCell (by simp) _).setCell (by simp) _ | exact ((below_alloc p1 _).setCell (by simp) _).setCell (by simp) _ | exact below_alloc ((p1.setCell (by simp) _).setCell (by simp) _) _
          | false =>
            as_aux_lemma =>
            have HK := Lib.hid (show (ra, rb, rc) = ((0 : Int), (0 : Int), false) from by simp only [h0, if_true, if_false, Bool.and_true, Bool.and_false, Bool.true_and, Bool.false_and, Bool.false_eq_true, Prod.mk.injEq] at hRR ⊢; obtain ⟨⟨a, b⟩, c⟩ := hRR; exact ⟨a, b, c⟩)
            obtain ⟨r1, r2, r3⟩ : ra = _ ∧ rb = _ ∧ rc = _ := ⟨(Prod.mk.inj HK.out).1, (Prod.mk.inj (Prod.mk.inj HK.out).2).1, (Prod.mk.inj (Prod.mk.inj HK.out).2).2⟩
            subst r1 r2 r3
            clear HK hRR
            go_enter Tryz.func145, Tryz.ntmps145
            go_wp2_with (first | (go_at_call 175; refine (hI _ (by exact ((Below.refl _ _).alloc (Nat.le_refl _) _).alloc (by simp) _)).mono ?_; rintro e w' ⟨rfl, rfl⟩))
            refine bodyPost_ret (v := .tuple #[.agg #[.int .i64 (0), .int .i64 (0)], .bool false]) (by simp [results, Tryz.results145, go_sem]) rfl ⟨rfl, ?_⟩
            first | exact ((Below.refl _ _).alloc (Nat.le_refl _) _).alloc (by simp) _ | exact ((((Below.refl _ _).alloc (Nat.le_refl _) _).alloc (by simp) _).setCell (by simp) _).setCell (by simp) _
    | true =>
      cases qz with
      | true =>
        have HK := Lib.hid (show (ra, rb, rc) = ((2 : Int), (0 : Int), true) from by simp only [h0, if_true, if_false, Bool.and_true, Bool.and_false, Bool.true_and, Bool.false_and, Bool.false_eq_true, Prod.mk.injEq] at hRR ⊢; obtain ⟨⟨a, b⟩, c⟩ := hRR; exact ⟨a, b, c⟩)
        obtain ⟨r1, r2, r3⟩ : ra = _ ∧ rb = _ ∧ rc = _ := ⟨(Prod.mk.inj HK.out).1, (Prod.mk.inj (Prod.mk.inj HK.out).2).1, (Prod.mk.inj (Prod.mk.inj HK.out).2).2⟩
        subst r1 r2 r3
        clear HK hRR
        go_enter Tryz.func145, Tryz.ntmps145
        go_wp2_with (first | (go_at_call 175; refine (hI _ (by exact ((Below.refl _ _).alloc (Nat.le_refl _) _).alloc (by simp) _)).mono ?_; rintro e w' ⟨rfl, rfl⟩))
        refine bodyPost_ret (v := .tuple #[.agg #[.int .i64 (2), .int .i64 (0)], .bool true]) (by simp [results, Tryz.results145, go_sem]) rfl ⟨rfl, ?_⟩
        first | exact ((Below.refl _ _).alloc (Nat.le_refl _) _).alloc (by simp) _ | exact ((((Below.refl _ _).alloc (Nat.le_refl _) _).alloc (by simp) _).setCell (by simp) _).setCell (by simp) _
      | false =>
        cases co with
        | true =>
          have HK := Lib.hid (show (ra, rb, rc) = ((4 : Int), (cN : Int), cB) from by simp only [h0, if_true, if_false, Bool.and_true, Bool.and_false, Bool.true_and, Bool.false_and, Bool.false_eq_true, Prod.mk.injEq] at hRR ⊢; obtain ⟨⟨a, b⟩, c⟩ := hRR; exact ⟨a, b, c⟩)
          obtain ⟨r1, r2, r3⟩ : ra = _ ∧ rb = _ ∧ rc = _ := ⟨(Prod.mk.inj HK.out).1, (Prod.mk.inj (Prod.mk.inj HK.out).2).1, (Prod.mk.inj (Prod.mk.inj HK.out).2).2⟩
          subst r1 r2 r3
          clear HK hRR
          go_enter Tryz.func145, Tryz.ntmps145
          go_wp2_with (first | (go_at_call 175; refine (hI _ (by exact ((Below.refl _ _).alloc (Nat.le_refl _) _).alloc (by simp) _)).mono ?_; rintro e w' ⟨rfl, rfl⟩) | (go_at_call 176; refine (hCol _).mono ?_; rintro e w1 ⟨rfl, hB1⟩; obtain ⟨hc, hf⟩ := bcell hB1; have hz : w.heap.size + 1 < w1.heap.size := (by have hs := hB1.size; simp at hs; omega); have hy : w.heap.size < w1.heap.size := (by omega)))
          refine bodyPost_ret (v := .tuple #[.agg #[.int .i64 (4), .int .i64 (rb)], .bool rc]) (by simp [results, Tryz.results145, go_sem, hc, hz]) rfl ⟨rfl, ?_⟩
          have p1 : Below w.heap.size w w1 := (((Below.refl _ _).alloc (Nat.le_refl _) _).alloc (by simp) _).trans (hB1.mono (by first | (simp; done) | (simp; omega)))
          first | exact (p1.setCell (by simp) _).setCell (by simp) _ | exact ((below_alloc p1 _).setCell (by simp) _).setCell (by simp) _ | exact below_alloc ((p1.setCell (by simp) _).setCell (by simp) _) _
        | false =>
          cases xB with
          | true =>
            have HK := Lib.hid (show (ra, rb, rc) = ((xa : Int), (xb : Int), true) from by simp only [h0, if_true, if_false, Bool.and_true, Bool.and_false, Bool.true_and, Bool.false_and, Bool.false_eq_true, Prod.mk.injEq] at hRR ⊢; obtain ⟨⟨a, b⟩, c⟩ := hRR; exact ⟨a, b, c⟩)
            obtain ⟨r1, r2, r3⟩ : ra = _ ∧ rb = _ ∧ rc = _ := ⟨(Prod.mk.inj HK.out).1, (Prod.mk.inj (Prod.mk.inj HK.out).2).1, (Prod.mk.inj (Prod.mk.inj HK.out).2).2⟩
            subst r1 r2 r3
            clear HK hRR
            go_enter Tryz.func145, Tryz.ntmps145
            go_wp2_with (first | (go_at_call 175; refine (hI _ (by exact ((Below.refl _ _).alloc (Nat.le_refl _) _).alloc (by simp) _)).mono ?_; rintro e w' ⟨rfl, rfl⟩) | (go_at_call 177; with_reducible refine (hPx _).mono ?_; rintro e w1 ⟨rfl, hB1⟩; obtain ⟨hc, hf⟩ := bcell hB1; have hz : w.heap.size + 1 < w1.heap.size := (by have hs := hB1.size; simp at hs; omega); have hy : w.heap.size < w1.heap.size := (by omega)))
            refine bodyPost_ret (v := .tuple #[.agg #[.int .i64 (ra), .int .i64 (rb)], .bool true]) (by simp [results, Tryz.results145, go_sem, hc, hz]) rfl ⟨rfl, ?_⟩
            have p1 : Below w.heap.size w w1 := (((Below.refl _ _).alloc (Nat.le_refl _) _).alloc (by simp) _).trans (hB1.mono (by first | (simp; done) | (simp; omega)))
            first | exact (p1.setCell (by simp) _).setCell (by simp) _ | exact ((below_alloc p1 _).setCell (by simp) _).setCell (by simp) _ | exact below_alloc ((p1.setCell (by simp) _).setCell (by simp) _) _
          | false =>
            cases pa with
            | true =>
              have HK := Lib.hid (show (ra, rb, rc) = ((pA : Int), (pb : Int), pB) from by simp only [h0, if_true, if_false, Bool.and_true, Bool.and_false, Bool.true_and, Bool.false_and, Bool.false_eq_true, Prod.mk.injEq] at hRR ⊢; obtain ⟨⟨a, b⟩, c⟩ := hRR; exact ⟨a, b, c⟩)
              obtain ⟨r1, r2, r3⟩ : ra = _ ∧ rb = _ ∧ rc = _ := ⟨(Prod.mk.inj HK.out).1, (Prod.mk.inj (Prod.mk.inj HK.out).2).1, (Prod.mk.inj (Prod.mk.inj HK.out).2).2⟩
              subst r1 r2 r3
              clear HK hRR
              go_enter Tryz.func145, Tryz.ntmps145
              go_wp2_with (first | (go_at_call 175; refine (hI _ (by exact ((Below.refl _ _).alloc (Nat.le_refl _) _).alloc (by simp) _)).mono ?_; rintro e w' ⟨rfl, rfl⟩) | (go_at_call 177; first | (with_reducible refine (hPx _).mono ?_; rintro e w1 ⟨rfl, hB1⟩; obtain ⟨hc, hf⟩ := bcell hB1; have hz : w.heap.size + 1 < w1.heap.size := (by have hs := hB1.size; simp at hs; omega); have hy : w.heap.size < w1.heap.size := (by omega)) | (with_reducible refine (hPc _).mono ?_; rintro e w2 ⟨rfl, hB2⟩; obtain ⟨hc2, hf2⟩ := bcell hB2; have hz2 : w.heap.size + 1 < w2.heap.size := (by have hs2 := hB2.size; simp at hs2; omega); have hy2 : w.heap.size < w2.heap.size := (by omega))))
              have k0 : w2.cell? ⟨w.heap.size + 1, 0, none⟩ = some (.int .i64 0) := by rw [hc2 _ _ (by simp; omega)]; simp [hc, hz, hy, World.cell?_alloc_past, go_sem]
              have k1 : w2.cell? ⟨w.heap.size + 1, 1, none⟩ = some (.int .i64 0) := by rw [hc2 _ _ (by simp; omega)]; simp [hc, hz, hy, World.cell?_alloc_past, go_sem]
              refine bodyPost_ret (v := .tuple #[.agg #[.int .i64 (ra), .int .i64 (rb)], .bool rc]) (by simp [results, Tryz.results145, go_sem, k0, k1]) rfl ⟨rfl, ?_⟩
              have p1 : Below w.heap.size w w1 := (((Below.refl _ _).alloc (Nat.le_refl _) _).alloc (by simp) _).trans (hB1.mono (by first | (simp; done) | (simp; omega)))
              have p2 : Below w.heap.size w w2 := by first | exact (below_alloc p1 _).trans (hB2.mono (by first | (simp; done) | (simp; omega))) | exact p1.trans (hB2.mono (by first | (simp; done) | (simp; omega)))
              exact (p2.setCell (by simp) _).setCell (by simp) _
            | false =>
              cases nu with
              | true =>
                have HK := Lib.hid (show (ra, rb, rc) = ((ua : Int), (ub : Int), uB) from by simp only [h0, if_true, if_false, Bool.and_true, Bool.and_false, Bool.true_and, Bool.false_and, Bool.false_eq_true, Prod.mk.injEq] at hRR ⊢; obtain ⟨⟨a, b⟩, c⟩ := hRR; exact ⟨a, b, c⟩)
                obtain ⟨r1, r2, r3⟩ : ra = _ ∧ rb = _ ∧ rc = _ := ⟨(Prod.mk.inj HK.out).1, (Prod.mk.inj (Prod.mk.inj HK.out).2).1, (Prod.mk.inj (Prod.mk.inj HK.out).2).2⟩
                subst r1 r2 r3
                clear HK hRR
                go_enter Tryz.func145, Tryz.ntmps145
                go_wp2_with (first | (go_at_call 175; refine (hI _ (by exact ((Below.refl _ _).alloc (Nat.le_refl _) _).alloc (by simp) _)).mono ?_; rintro e w' ⟨rfl, rfl⟩) | (go_at_call 177; first | (with_reducible refine (hPx _).mono ?_; rintro e w1 ⟨rfl, hB1⟩; obtain ⟨hc, hf⟩ := bcell hB1; have hz : w.heap.size + 1 < w1.heap.size := (by have hs := hB1.size; simp at hs; omega); have hy : w.heap.size < w1.heap.size := (by omega)) | (with_reducible refine (hNu _).mono ?_; rintro e w2 ⟨rfl, hB2⟩; obtain ⟨hc2, hf2⟩ := bcell hB2; have hz2 : w.heap.size + 1 < w2.heap.size := (by have hs2 := hB2.size; simp at hs2; omega); have hy2 : w.heap.size < w2.heap.size := (by omega))))
                have k0 : w2.cell? ⟨w.heap.size + 1, 0, none⟩ = some (.int .i64 0) := by rw [hc2 _ _ (by simp; omega)]; simp [hc, hz, hy, World.cell?_alloc_past, go_sem]
                have k1 : w2.cell? ⟨w.heap.size + 1, 1, none⟩ = some (.int .i64 0) := by rw [hc2 _ _ (by simp; omega)]; simp [hc, hz, hy, World.cell?_alloc_past, go_sem]
                refine bodyPost_ret (v := .tuple #[.agg #[.int .i64 (ra), .int .i64 (rb)], .bool rc]) (by simp [results, Tryz.results145, go_sem, k0, k1]) rfl ⟨rfl, ?_⟩
                have p1 : Below w.heap.size w w1 := (((Below.refl _ _).alloc (Nat.le_refl _) _).alloc (by simp) _).trans (hB1.mono (by first | (simp; done) | (simp; omega)))
                have p2 : Below w.heap.size w w2 := by first | exact (below_alloc p1 _).trans (hB2.mono (by first | (simp; done) | (simp; omega))) | exact p1.trans (hB2.mono (by first | (simp; done) | (simp; omega)))
                exact (p2.setCell (by simp) _).setCell (by simp) _
              | false =>
                as_aux_lemma =>
                have HK := Lib.hid (show (ra, rb, rc) = ((0 : Int), (0 : Int), false) from by simp only [h0, if_true, if_false, Bool.and_true, Bool.and_false, Bool.true_and, Bool.false_and, Bool.false_eq_true, Prod.mk.injEq] at hRR ⊢; obtain ⟨⟨a, b⟩, c⟩ := hRR; exact ⟨a, b, c⟩)
                obtain ⟨r1, r2, r3⟩ : ra = _ ∧ rb = _ ∧ rc = _ := ⟨(Prod.mk.inj HK.out).1, (Prod.mk.inj (Prod.mk.inj HK.out).2).1, (Prod.mk.inj (Prod.mk.inj HK.out).2).2⟩
                subst r1 r2 r3
                clear HK hRR
                go_enter Tryz.func145, Tryz.ntmps145
                go_wp2_with (first | (go_at_call 175; refine (hI _ (by exact ((Below.refl _ _).alloc (Nat.le_refl _) _).alloc (by simp) _)).mono ?_; rintro e w' ⟨rfl, rfl⟩) | (go_at_call 177; with_reducible refine (hPx _).mono ?_; rintro e w1 ⟨rfl, hB1⟩; obtain ⟨hc, hf⟩ := bcell hB1; have hz : w.heap.size + 1 < w1.heap.size := (by have hs := hB1.size; simp at hs; omega); have hy : w.heap.size < w1.heap.size := (by omega)))
                refine bodyPost_ret (v := .tuple #[.agg #[.int .i64 (0), .int .i64 (0)], .bool false]) (by simp [results, Tryz.results145, go_sem, hc, hz]) rfl ⟨rfl, ?_⟩
                have p1 : Below w.heap.size w w1 := (((Below.refl _ _).alloc (Nat.le_refl _) _).alloc (by simp) _).trans (hB1.mono (by first | (simp; done) | (simp; omega)))
                first | exact (p1.setCell (by simp) _).setCell (by simp) _ | exact ((below_alloc p1 _).setCell (by simp) _).setCell (by simp) _ | exact below_alloc ((p1.setCell (by simp) _).setCell (by simp) _) _
  | true =>
    cases qa with
    | true =>
      have HK := Lib.hid (show (ra, rb, rc) = ((1 : Int), (0 : Int), true) from by simp only [h0, if_true, if_false, Bool.and_true, Bool.and_false, Bool.true_and, Bool.false_and, Bool.false_eq_true, Prod.mk.injEq] at hRR ⊢; obtain ⟨⟨a, b⟩, c⟩ := hRR; exact ⟨a, b, c⟩)
      obtain ⟨r1, r2, r3⟩ : ra = _ ∧ rb = _ ∧ rc = _ := ⟨(Prod.mk.inj HK.out).1, (Prod.mk.inj (Prod.mk.inj HK.out).2).1, (Prod.mk.inj (Prod.mk.inj HK.out).2).2⟩
      subst r1 r2 r3
      clear HK hRR
      go_enter Tryz.func145, Tryz.ntmps145
      go_wp2_with (first | (go_at_call 175; refine (hI _ (by exact ((Below.refl _ _).alloc (Nat.le_refl _) _).alloc (by simp) _)).mono ?_; rintro e w' ⟨rfl, rfl⟩))
      refine bodyPost_ret (v := .tuple #[.agg #[.int .i64 (1), .int .i64 (0)], .bool true]) (by simp [results, Tryz.results145, go_sem]) rfl ⟨rfl, ?_⟩
      first | exact ((Below.refl _ _).alloc (Nat.le_refl _) _).alloc (by simp) _ | exact ((((Below.refl _ _).alloc (Nat.le_refl _) _).alloc (by simp) _).setCell (by simp) _).setCell (by simp) _
    | false =>
      cases le with
      | false =>
        cases co with
        | true =>
          have HK := Lib.hid (show (ra, rb, rc) = ((4 : Int), (cN : Int), cB) from by simp only [h0, if_true, if_false, Bool.and_true, Bool.and_false, Bool.true_and, Bool.false_and, Bool.false_eq_true, Prod.mk.injEq] at hRR ⊢; obtain ⟨⟨a, b⟩, c⟩ := hRR; exact ⟨a, b, c⟩)
          obtain ⟨r1, r2, r3⟩ : ra = _ ∧ rb = _ ∧ rc = _ := ⟨(Prod.mk.inj HK.out).1, (Prod.mk.inj (Prod.mk.inj HK.out).2).1, (Prod.mk.inj (Prod.mk.inj HK.out).2).2⟩
          subst r1 r2 r3
          clear HK hRR
          go_enter Tryz.func145, Tryz.ntmps145
          go_wp2_with (first | (go_at_call 175; refine (hI _ (by exact ((Below.refl _ _).alloc (Nat.le_refl _) _).alloc (by simp) _)).mono ?_; rintro e w' ⟨rfl, rfl⟩) | (go_at_call 176; refine (hCol _).mono ?_; rintro e w1 ⟨rfl, hB1⟩; obtain ⟨hc, hf⟩ := bcell hB1; have hz : w.heap.size + 1 < w1.heap.size := (by have hs := hB1.size; simp at hs; omega); have hy : w.heap.size < w1.heap.size := (by omega)))
          refine bodyPost_ret (v := .tuple #[.agg #[.int .i64 (4), .int .i64 (rb)], .bool rc]) (by simp [results, Tryz.results145, go_sem, hc, hz]) rfl ⟨rfl, ?_⟩
          have p1 : Below w.heap.size w w1 := (((Below.refl _ _).alloc (Nat.le_refl _) _).alloc (by simp) _).trans (hB1.mono (by first | (simp; done) | (simp; omega)))
          first | exact (p1.setCell (by simp) _).setCell (by simp) _ | exact ((below_alloc p1 _).setCell (by simp) _).setCell (by simp) _ | exact below_alloc ((p1.setCell (by simp) _).setCell (by simp) _) _
        | false =>
          cases pa with
          | true =>
            have HK := Lib.hid (show (ra, rb, rc) = ((pA : Int), (pb : Int), pB) from by simp only [h0, if_true, if_false, Bool.and_true, Bool.and_false, Bool.true_and, Bool.false_and, Bool.false_eq_true, Prod.mk.injEq] at hRR ⊢; obtain ⟨⟨a, b⟩, c⟩ := hRR; exact ⟨a, b, c⟩)
            obtain ⟨r1, r2, r3⟩ : ra = _ ∧ rb = _ ∧ rc = _ := ⟨(Prod.mk.inj HK.out).1, (Prod.mk.inj (Prod.mk.inj HK.out).2).1, (Prod.mk.inj (Prod.mk.inj HK.out).2).2⟩
            subst r1 r2 r3
            clear HK hRR
            go_enter Tryz.func145, Tryz.ntmps145
            go_wp2_with (first | (go_at_call 175; refine (hI _ (by exact ((Below.refl _ _).alloc (Nat.le_refl _) _).alloc (by simp) _)).mono ?_; rintro e w' ⟨rfl, rfl⟩) | (go_at_call 177; with_reducible refine (hPc _).mono ?_; rintro e w1 ⟨rfl, hB1⟩; obtain ⟨hc, hf⟩ := bcell hB1; have hz : w.heap.size + 1 < w1.heap.size := (by have hs := hB1.size; simp at hs; omega); have hy : w.heap.size < w1.heap.size := (by omega)))
            refine bodyPost_ret (v := .tuple #[.agg #[.int .i64 (ra), .int .i64 (rb)], .bool rc]) (by simp [results, Tryz.results145, go_sem, hc, hz]) rfl ⟨rfl, ?_⟩
            have p1 : Below w.heap.size w w1 := (((Below.refl _ _).alloc (Nat.le_refl _) _).alloc (by simp) _).trans (hB1.mono (by first | (simp; done) | (simp; omega)))
            first | exact (p1.setCell (by simp) _).setCell (by simp) _ | exact ((below_alloc p1 _).setCell (by simp) _).setCell (by simp) _ | exact below_alloc ((p1.setCell (by simp) _).setCell (by simp) _) _
          | false =>
            cases nu with
            | true =>
              have HK := Lib.hid (show (ra, rb, rc) = ((ua : Int), (ub : Int), uB) from by simp only [h0, if_true, if_false, Bool.and_true, Bool.and_false, Bool.true_and, Bool.false_and, Bool.false_eq_true, Prod.mk.injEq] at hRR ⊢; obtain ⟨⟨a, b⟩, c⟩ := hRR; exact ⟨a, b, c⟩)
              obtain ⟨r1, r2, r3⟩ : ra = _ ∧ rb = _ ∧ rc = _ := ⟨(Prod.mk.inj HK.out).1, (Prod.mk.inj (Prod.mk.inj HK.out).2).1, (Prod.mk.inj (Prod.mk.inj HK.out).2).2⟩
              subst r1 r2 r3
              clear HK hRR
              go_enter Tryz.func145, Tryz.ntmps145
              go_wp2_with (first | (go_at_call 175; refine (hI _ (by exact ((Below.refl _ _).alloc (Nat.le_refl _) _).alloc (by simp) _)).mono ?_; rintro e w' ⟨rfl, rfl⟩) | (go_at_call 177; with_reducible refine (hNu _).mono ?_; rintro e w1 ⟨rfl, hB1⟩; obtain ⟨hc, hf⟩ := bcell hB1; have hz : w.heap.size + 1 < w1.heap.size := (by have hs := hB1.size; simp at hs; omega); have hy : w.heap.size < w1.heap.size := (by omega)))
              refine bodyPost_ret (v := .tuple #[.agg #[.int .i64 (ra), .int .i64 (rb)], .bool rc]) (by simp [results, Tryz.results145, go_sem, hc, hz]) rfl ⟨rfl, ?_⟩
              have p1 : Below w.heap.size w w1 := (((Below.refl _ _).alloc (Nat.le_refl _) _).alloc (by simp) _).trans (hB1.mono (by first | (simp; done) | (simp; omega)))
              first | exact (p1.setCell (by simp) _).setCell (by simp) _ | exact ((below_alloc p1 _).setCell (by simp) _).setCell (by simp) _ | exact below_alloc ((p1.setCell (by simp) _).setCell (by simp) _) _
            | false =>
              as_aux_lemma =>
              have HK := Lib.hid (show (ra, rb, rc) = ((0 : Int), (0 : Int), false) from by simp only [h0, if_true, if_false, Bool.and_true, Bool.and_false, Bool.true_and, Bool.false_and, Bool.false_eq_true, Prod.mk.injEq] at hRR ⊢; obtain ⟨⟨a, b⟩, c⟩ := hRR; exact ⟨a, b, c⟩)
              obtain ⟨r1, r2, r3⟩ : ra = _ ∧ rb = _ ∧ rc = _ := ⟨(Prod.mk.inj HK.out).1, (Prod.mk.inj (Prod.mk.inj HK.out).2).1, (Prod.mk.inj (Prod.mk.inj HK.out).2).2⟩
              subst r1 r2 r3
              clear HK hRR
              go_enter Tryz.func145, Tryz.ntmps145
              go_wp2_with (first | (go_at_call 175; refine (hI _ (by exact ((Below.refl _ _).alloc (Nat.le_refl _) _).alloc (by simp) _)).mono ?_; rintro e w' ⟨rfl, rfl⟩))
              refine bodyPost_ret (v := .tuple #[.agg #[.int .i64 (0), .int .i64 (0)], .bool false]) (by simp [results, Tryz.results145, go_sem]) rfl ⟨rfl, ?_⟩
              first | exact ((Below.refl _ _).alloc (Nat.le_refl _) _).alloc (by simp) _ | exact ((((Below.refl _ _).alloc (Nat.le_refl _) _).alloc (by simp) _).setCell (by simp) _).setCell (by simp) _
      | true =>
        cases qz with
        | true =>
          have HK := Lib.hid (show (ra, rb, rc) = ((2 : Int), (0 : Int), true) from by simp only [h0, if_true, if_false, Bool.and_true, Bool.and_false, Bool.true_and, Bool.false_and, Bool.false_eq_true, Prod.mk.injEq] at hRR ⊢; obtain ⟨⟨a, b⟩, c⟩ := hRR; exact ⟨a, b, c⟩)
          obtain ⟨r1, r2, r3⟩ : ra = _ ∧ rb = _ ∧ rc = _ := ⟨(Prod.mk.inj HK.out).1, (Prod.mk.inj (Prod.mk.inj HK.out).2).1, (Prod.mk.inj (Prod.mk.inj HK.out).2).2⟩
          subst r1 r2 r3
          clear HK hRR
          go_enter Tryz.func145, Tryz.ntmps145
          go_wp2_with (first | (go_at_call 175; refine (hI _ (by exact ((Below.refl _ _).alloc (Nat.le_refl _) _).alloc (by simp) _)).mono ?_; rintro e w' ⟨rfl, rfl⟩))
          refine bodyPost_ret (v := .tuple #[.agg #[.int .i64 (2), .int .i64 (0)], .bool true]) (by simp [results, Tryz.results145, go_sem]) rfl ⟨rfl, ?_⟩
          first | exact ((Below.refl _ _).alloc (Nat.le_refl _) _).alloc (by simp) _ | exact ((((Below.refl _ _).alloc (Nat.le_refl _) _).alloc (by simp) _).setCell (by simp) _).setCell (by simp) _
        | false =>
          cases co with
          | true =>
            have HK := Lib.hid (show (ra, rb, rc) = ((4 : Int), (cN : Int), cB) from by simp only [h0, if_true, if_false, Bool.and_true, Bool.and_false, Bool.true_and, Bool.false_and, Bool.false_eq_true, Prod.mk.injEq] at hRR ⊢; obtain ⟨⟨a, b⟩, c⟩ := hRR; exact ⟨a, b, c⟩)
            obtain ⟨r1, r2, r3⟩ : ra = _ ∧ rb = _ ∧ rc = _ := ⟨(Prod.mk.inj HK.out).1, (Prod.mk.inj (Prod.mk.inj HK.out).2).1, (Prod.mk.inj (Prod.mk.inj HK.out).2).2⟩
            subst r1 r2 r3
            clear HK hRR
            go_enter Tryz.func145, Tryz.ntmps145
            go_wp2_with (first | (go_at_call 175; refine (hI _ (by exact ((Below.refl _ _).alloc (Nat.le_refl _) _).alloc (by simp) _)).mono ?_; rintro e w' ⟨rfl, rfl⟩) | (go_at_call 176; refine (hCol _).mono ?_; rintro e w1 ⟨rfl, hB1⟩; obtain ⟨hc, hf⟩ := bcell hB1; have hz : w.heap.size + 1 < w1.heap.size := (by have hs := hB1.size; simp at hs; omega); have hy : w.heap.size < w1.heap.size := (by omega)))
            refine bodyPost_ret (v := .tuple #[.agg #[.int .i64 (4), .int .i64 (rb)], .bool rc]) (by simp [results, Tryz.results145, go_sem, hc, hz]) rfl ⟨rfl, ?_⟩
            have p1 : Below w.heap.size w w1 := (((Below.refl _ _).alloc (Nat.le_refl _) _).alloc (by simp) _).trans (hB1.mono (by first | (simp; done) | (simp; omega)))
            first | exact (p1.setCell (by simp) _).setCell (by simp) _ | exact ((below_alloc p1 _).setCell (by simp) _).setCell (by simp) _ | exact below_alloc ((p1.setCell (by simp) _).setCell (by simp) _) _
          | false =>
            cases xB with
            | true =>
              have HK := Lib.hid (show (ra, rb, rc) = ((xa : Int), (xb : Int), true) from by simp only [h0, if_true, if_false, Bool.and_true, Bool.and_false, Bool.true_and, Bool.false_and, Bool.false_eq_true, Prod.mk.injEq] at hRR ⊢; obtain ⟨⟨a, b⟩, c⟩ := hRR; exact ⟨a, b, c⟩)
              obtain ⟨r1, r2, r3⟩ : ra = _ ∧ rb = _ ∧ rc = _ := ⟨(Prod.mk.inj HK.out).1, (Prod.mk.inj (Prod.mk.inj HK.out).2).1, (Prod.mk.inj (Prod.mk.inj HK.out).2).2⟩
              subst r1 r2 r3
              clear HK hRR
              go_enter Tryz.func145, Tryz.ntmps145
              go_wp2_with (first | (go_at_call 175; refine (hI _ (by exact ((Below.refl _ _).alloc (Nat.le_refl _) _).alloc (by simp) _)).mono ?_; rintro e w' ⟨rfl, rfl⟩) | (go_at_call 177; with_reducible refine (hPx _).mono ?_; rintro e w1 ⟨rfl, hB1⟩; obtain ⟨hc, hf⟩ := bcell hB1; have hz : w.heap.size + 1 < w1.heap.size := (by have hs := hB1.size; simp at hs; omega); have hy : w.heap.size < w1.heap.size := (by omega)))
              refine bodyPost_ret (v := .tuple #[.agg #[.int .i64 (ra), .int .i64 (rb)], .bool true]) (by simp [results, Tryz.results145, go_sem, hc, hz]) rfl ⟨rfl, ?_⟩
              have p1 : Below w.heap.size w w1 := (((Below.refl _ _).alloc (Nat.le_refl _) _).alloc (by simp) _).trans (hB1.mono (by first | (simp; done) | (simp; omega)))
              first | exact (p1.setCell (by simp) _).setCell (by simp) _ | exact ((below_alloc p1 _).setCell (by simp) _).setCell (by simp) _ | exact below_alloc ((p1.setCell (by simp) _).setCell (by simp) _) _
            | false =>
              cases pa with
              | true =>
                have HK := Lib.hid (show (ra, rb, rc) = ((pA : Int), (pb : Int), pB) from by simp only [h0, if_true, if_false, Bool.and_true, Bool.and_false, Bool.true_and, Bool.false_and, Bool.false_eq_true, Prod.mk.injEq] at hRR ⊢; obtain ⟨⟨a, b⟩, c⟩ := hRR; exact ⟨a, b, c⟩)
                obtain ⟨r1, r2, r3⟩ : ra = _ ∧ rb = _ ∧ rc = _ := ⟨(Prod.mk.inj HK.out).1, (Prod.mk.inj (Prod.mk.inj HK.out).2).1, (Prod.mk.inj (Prod.mk.inj HK.out).2).2⟩
                subst r1 r2 r3
                clear HK hRR
                go_enter Tryz.func145, Tryz.ntmps145
                go_wp2_with (first | (go_at_call 175; refine (hI _ (by exact ((Below.refl _ _).alloc (Nat.le_refl _) _).alloc (by simp) _)).mono ?_; rintro e w' ⟨rfl, rfl⟩) | (go_at_call 177; first | (with_reducible refine (hPx _).mono ?_; rintro e w1 ⟨rfl, hB1⟩; obtain ⟨hc, hf⟩ := bcell hB1; have hz : w.heap.size + 1 < w1.heap.size := (by have hs := hB1.size; simp at hs; omega); have hy : w.heap.size < w1.heap.size := (by omega)) | (with_reducible refine (hPc _).mono ?_; rintro e w2 ⟨rfl, hB2⟩; obtain ⟨hc2, hf2⟩ := bcell hB2; have hz2 : w.heap.size + 1 < w2.heap.size := (by have hs2 := hB2.size; simp at hs2; omega); have hy2 : w.heap.size < w2.heap.size := (by omega))))
                have k0 : w2.cell? ⟨w.heap.size + 1, 0, none⟩ = some (.int .i64 0) := by rw [hc2 _ _ (by simp; omega)]; simp [hc, hz, hy, World.cell?_alloc_past, go_sem]
                have k1 : w2.cell? ⟨w.heap.size + 1, 1, none⟩ = some (.int .i64 0) := by rw [hc2 _ _ (by simp; omega)]; simp [hc, hz, hy, World.cell?_alloc_past, go_sem]
                refine bodyPost_ret (v := .tuple #[.agg #[.int .i64 (ra), .int .i64 (rb)], .bool rc]) (by simp [results, Tryz.results145, go_sem, k0, k1]) rfl ⟨rfl, ?_⟩
                have p1 : Below w.heap.size w w1 := (((Below.refl _ _).alloc (Nat.le_refl _) _).alloc (by simp) _).trans (hB1.mono (by first | (simp; done) | (simp; omega)))
                have p2 : Below w.heap.size w w2 := by first | exact (below_alloc p1 _).trans (hB2.mono (by first | (simp; done) | (simp; omega))) | exact p1.trans (hB2.mono (by first | (simp; done) | (simp; omega)))
                exact (p2.setCell (by simp) _).setCell (by simp) _
              | false =>
                cases nu with
                | true =>
                  have HK := Lib.hid (show (ra, rb, rc) = ((ua : Int), (ub : Int), uB) from by simp only [h0, if_true, if_false, Bool.and_true, Bool.and_false, Bool.true_and, Bool.false_and, Bool.false_eq_true, Prod.mk.injEq] at hRR ⊢; obtain ⟨⟨a, b⟩, c⟩ := hRR; exact ⟨a, b, c⟩)
                  obtain ⟨r1, r2, r3⟩ : ra = _ ∧ rb = _ ∧ rc = _ := ⟨(Prod.mk.inj HK.out).1, (Prod.mk.inj (Prod.mk.inj HK.out).2).1, (Prod.mk.inj (Prod.mk.inj HK.out).2).2⟩
                  subst r1 r2 r3
                  clear HK hRR
                  go_enter Tryz.func145, Tryz.ntmps145
                  go_wp2_with (first | (go_at_call 175; refine (hI _ (by exact ((Below.refl _ _).alloc (Nat.le_refl _) _).alloc (by simp) _)).mono ?_; rintro e w' ⟨rfl, rfl⟩) | (go_at_call 177; first | (with_reducible refine (hPx _).mono ?_; rintro e w1 ⟨rfl, hB1⟩; obtain ⟨hc, hf⟩ := bcell hB1; have hz : w.heap.size + 1 < w1.heap.size := (by have hs := hB1.size; simp at hs; omega); have hy : w.heap.size < w1.heap.size := (by omega)) | (with_reducible refine (hNu _).mono ?_; rintro e w2 ⟨rfl, hB2⟩; obtain ⟨hc2, hf2⟩ := bcell hB2; have hz2 : w.heap.size + 1 < w2.heap.size := (by have hs2 := hB2.size; simp at hs2; omega); have hy2 : w.heap.size < w2.heap.size := (by omega))))
                  have k0 : w2.cell? ⟨w.heap.size + 1, 0, none⟩ = some (.int .i64 0) := by rw [hc2 _ _ (by simp; omega)]; simp [hc, hz, hy, World.cell?_alloc_past, go_sem]
                  have k1 : w2.cell? ⟨w.heap.size + 1, 1, none⟩ = some (.int .i64 0) := by rw [hc2 _ _ (by simp; omega)]; simp [hc, hz, hy, World.cell?_alloc_past, go_sem]
                  refine bodyPost_ret (v := .tuple #[.agg #[.int .i64 (ra), .int .i64 (rb)], .bool rc]) (by simp [results, Tryz.results145, go_sem, k0, k1]) rfl ⟨rfl, ?_⟩
                  have p1 : Below w.heap.size w w1 := (((Below.refl _ _).alloc (Nat.le_refl _) _).alloc (by simp) _).trans (hB1.mono (by first | (simp; done) | (simp; omega)))
                  have p2 : Below w.heap.size w w2 := by first | exact (below_alloc p1 _).trans (hB2.mono (by first | (simp; done) | (simp; omega))) | exact p1.trans (hB2.mono (by first | (simp; done) | (simp; omega)))
                  exact (p2.setCell (by simp) _).setCell (by simp) _
                | false =>
                  as_aux_lemma =>
                  have HK := Lib.hid (show (ra, rb, rc) = ((0 : Int), (0 : Int), false) from by simp only [h0, if_true, if_false, Bool.and_true, Bool.and_false, Bool.true_and, Bool.false_and, Bool.false_eq_true, Prod.mk.injEq] at hRR ⊢; obtain ⟨⟨a, b⟩, c⟩ := hRR; exact ⟨a, b, c⟩)
                  obtain ⟨r1, r2, r3⟩ : ra = _ ∧ rb = _ ∧ rc = _ := ⟨(Prod.mk.inj HK.out).1, (Prod.mk.inj (Prod.mk.inj HK.out).2).1, (Prod.mk.inj (Prod.mk.inj HK.out).2).2⟩
                  subst r1 r2 r3
                  clear HK hRR
                  go_enter Tryz.func145, Tryz.ntmps145
                  go_wp2_with (first | (go_at_call 175; refine (hI _ (by exact ((Below.refl _ _).alloc (Nat.le_refl _) _).alloc (by simp) _)).mono ?_; rintro e w' ⟨rfl, rfl⟩) | (go_at_call 177; with_reducible refine (hPx _).mono ?_; rintro e w1 ⟨rfl, hB1⟩; obtain ⟨hc, hf⟩ := bcell hB1; have hz : w.heap.size + 1 < w1.heap.size := (by have hs := hB1.size; simp at hs; omega); have hy : w.heap.size < w1.heap.size := (by omega)))
                  refine bodyPost_ret (v := .tuple #[.agg #[.int .i64 (0), .int .i64 (0)], .bool false]) (by simp [results, Tryz.results145, go_sem, hc, hz]) rfl ⟨rfl, ?_⟩
                  have p1 : Below w.heap.size w w1 := (((Below.refl _ _).alloc (Nat.le_refl _) _).alloc (by simp) _).trans (hB1.mono (by first | (simp; done) | (simp; omega)))
                  first | exact (p1.setCell (by simp) _).setCell (by simp) _ | exact ((below_alloc p1 _).setCell (by simp) _).setCell (by simp) _ | exact below_alloc ((p1.setCell (by simp) _).setCell (by simp) _) _
end Go.Proofs.Val
set_option linter.unusedVariables false
set_option linter.unusedSimpArgs false
namespace Go.Proofs.Val
open Go.RowKit Go.Proofs Go.Proofs.YtolfpgccebdlpaaGreatDoorW.PrintWords
def anyP (p : Nat) (l : List UInt8) : (Int × Int) × Bool := anyR (rec0 p).auto (rec0 p).length (rec0 p).part (rec0 p).color (rec0 p).number (wordsP p) l
def readL (p : Nat) (u : List UInt8) : (Int × Int) × Bool := if ((anyP p u).2 && mayV p (anyP p u).1.1 (anyP p u).1.2) = true then ((anyP p u).1, true) else ((0, 0), false)
def readV (p : Int) (s : ByteArray) : (Int × Int) × Bool := readL (cl p) (Scn.lowV (Scn.trimV s)).data.toList
theorem wordsP_le (p : Nat) : (wordsP p).length ≤ 4 := by
  unfold wordsP
  split
  · simp
  split
  · simp
  split
  · simp
  split <;> simp
theorem trimV_size (s : ByteArray) : (Scn.trimV s).size ≤ s.size := by
  show (Lib.trimS s.data.toList [32, 9, 10, 13]).length ≤ _
  rw [Lib.size_eq]
  unfold Lib.trimS Lib.trimLeftS Lib.trimRightS
  have h1 := (List.dropWhile_sublist (l := (s.data.toList.reverse.dropWhile (([32, 9, 10, 13] : List UInt8).contains ·)).reverse) (([32, 9, 10, 13] : List UInt8).contains ·)).length_le
  have h2 := (List.dropWhile_sublist (l := s.data.toList.reverse) (([32, 9, 10, 13] : List UInt8).contains ·)).length_le
  rw [List.length_reverse] at h1 h2
  omega
theorem lowV_size (s : ByteArray) : (Scn.lowV s).size = s.size := by
  show (s.data.toList.map Scn.lowB).length = _
  rw [List.length_map, Lib.size_eq]
set_option maxHeartbeats 8000000 in
set_option maxRecDepth 100000 in
theorem readC (p : Int) (s : ByteArray) (w : World) (hs : s.size < 4294967281) :
    Calls Tryz.prog 108 #[.int .i64 p, .string s] w fun e w' => e = .returned (.tuple #[.agg #[.int .i64 (readV p s).1.1, .int .i64 (readV p s).1.2], .bool (readV p s).2]) ∧ Below w.heap.size w w' := by
  have hO := fun w => ofP p w
  have hR := Lib.hid (show readV p s = if ((anyP (cl p) (Scn.lowV (Scn.trimV s)).data.toList).2 && mayV (cl p) (anyP (cl p) (Scn.lowV (Scn.trimV s)).data.toList).1.1 (anyP (cl p) (Scn.lowV (Scn.trimV s)).data.toList).1.2) = true then ((anyP (cl p) (Scn.lowV (Scn.trimV s)).data.toList).1, true) else ((0, 0), false) from rfl)
  have hT := fun w => Scn.trim_any s w hs
  have hts := trimV_size s
  have hL := fun w => Scn.lower_any (Scn.trimV s) w (by omega)
  have hls := lowV_size (Scn.trimV s)
  obtain ⟨tr, htr⟩ : ∃ tr, Scn.trimV s = tr := ⟨_, rfl⟩
  rw [htr] at hR hts hls
  simp only [htr] at hT hL
  obtain ⟨u, hu⟩ : ∃ u, Scn.lowV tr = u := ⟨_, rfl⟩
  rw [hu] at hR hls
  simp only [hu] at hL
  have hA := fun nm be wa kk nn w hw => anyC nm (rec0 (cl p)).auto (rec0 (cl p)).length (rec0 (cl p)).part be (rec0 (cl p)).color (rec0 (cl p)).number wa (wordsP (cl p)) kk nn u.data.toList w hw (wordsP_le _) (by rw [← Lib.size_eq]; omega)
  have hM := fun k n w => mayP p k n w
  have hwl := wordsP_len (cl p) (cl_le p)
  have hrec : ∀ wa, recV (recA (cl p) wa) = .agg #[.string (rec0 (cl p)).name, .bool (rec0 (cl p)).auto, .bool (rec0 (cl p)).length, .bool (rec0 (cl p)).part, .bool (rec0 (cl p)).below, .bool (rec0 (cl p)).color, .bool (rec0 (cl p)).number, .slice wa (wordsP (cl p)).length (wordsP (cl p)).length, .int .i64 (rec0 (cl p)).k, .int .i64 (rec0 (cl p)).n] := by
    intro wa
    rw [← hwl]
    rfl
  simp only [hrec] at hO
  change Hid (_ = if ((anyP (cl p) u.data.toList).2 && _) = true then _ else _) at hR
  have hAe : ∀ l, anyR (rec0 (cl p)).auto (rec0 (cl p)).length (rec0 (cl p)).part (rec0 (cl p)).color (rec0 (cl p)).number (wordsP (cl p)) l = anyP (cl p) l := fun l => rfl
  simp only [hAe] at hA
  have hue : (⟨u.data.toList.toArray⟩ : ByteArray) = u := by cases u; simp
  simp only [hue] at hA
  obtain ⟨⟨⟨a, b⟩, c⟩, hr⟩ : ∃ r, anyP (cl p) u.data.toList = r := ⟨_, rfl⟩
  rw [hr] at hR
  simp only [hr] at hA
  obtain ⟨m, hm⟩ : ∃ m, mayV (cl p) a b = m := ⟨_, rfl⟩
  have hM2 := fun w => hM a b w
  simp only [hm] at hM2 hR
  generalize (rec0 (cl p)).name = nm at hO
  generalize (rec0 (cl p)).auto = au at hO hA
  generalize (rec0 (cl p)).length = le at hO hA
  generalize (rec0 (cl p)).part = pa at hO hA
  generalize (rec0 (cl p)).below = be at hO
  generalize (rec0 (cl p)).color = co at hO hA
  generalize (rec0 (cl p)).number = nu at hO hA
  generalize (rec0 (cl p)).k = kk at hO
  generalize (rec0 (cl p)).n = nn at hO
  generalize decide (1 ≤ p ∧ p ≤ 26) = inB at hO
  generalize wordsP (cl p) = ws at hO hA hwl
  have HA := Lib.hid hA
  have HMM := Lib.hid hM2
  clear hA hM hM2 hwl hrec hAe hue hr hm hs hu htr hts hls
  go_enter Tryz.func108, Tryz.ntmps108
  go_upto_region 2 with (first | (go_at_call 116; refine (hO _).mono ?_; rintro e w1 ⟨wa, rfl, hS, hB⟩; obtain ⟨hc, hf⟩ := bcell hB; have hz : w.heap.size < w1.heap.size := (by have hs := hB.size; rw [alloc_size] at hs; omega)))
  obtain ⟨W1, hW1⟩ : ∃ W1, w1.alloc (Obj.cells #[.string nm, .bool au, .bool le, .bool pa, .bool be, .bool co, .bool nu, .slice wa ws.length ws.length, .int .i64 kk, .int .i64 nn] 163) = W1 := ⟨_, rfl⟩
  have hg : W1.heap[w1.heap.size]? = some (.cells #[.string nm, .bool au, .bool le, .bool pa, .bool be, .bool co, .bool nu, .slice wa ws.length ws.length, .int .i64 kk, .int .i64 nn] 163 (0, 0)) := by rw [← hW1]; exact heap_alloc_new _ _
  have HS1 := Lib.hid (show WordsIn W1 wa ws by rw [← hW1]; exact hS.below (below_alloc (Below.refl _ _) _))
  have p1 : Below w.heap.size w w1 := ((Below.refl _ _).alloc (Nat.le_refl _) _).trans (hB.mono (by rw [alloc_size]; omega))
  have P1 := Lib.hid (show Below w.heap.size w W1 by rw [← hW1]; exact below_alloc p1 _)
  have hcell4 : W1.cell? ⟨w.heap.size, 0, none⟩ = some (.int .i64 0) ∧ W1.cell? ⟨w.heap.size, 1, none⟩ = some (.int .i64 0) := by
    have h0 : w1.heap[w.heap.size]? = some (.cells #[.int .i64 0, .int .i64 0] 109 (0, 0)) := (hB.block w.heap.size (by rw [alloc_size]; omega)).trans (heap_alloc_new _ _)
    have h1 : W1.heap[w.heap.size]? = some (.cells #[.int .i64 0, .int .i64 0] 109 (0, 0)) := by rw [← hW1]; exact (heap_alloc_old _ _ hz).trans h0
    exact ⟨(cell_of_row _ _ _ _ _ _ h1).trans rfl, (cell_of_row _ _ _ _ _ _ h1).trans rfl⟩
  rw [hW1]
  have hfz : W1.frozen? ⟨w.heap.size, 0, none⟩ = false ∧ W1.frozen? ⟨w.heap.size, 1, none⟩ = false := by
    have h0 : ∀ o, w1.frozen? ⟨w.heap.size, o, none⟩ = false := fun o => (hf w.heap.size o (by rw [alloc_size]; omega)).trans (World.frozen?_alloc_at _ _ _ _ rfl)
    have h1 : ∀ o, W1.frozen? ⟨w.heap.size, o, none⟩ = false := fun o => by rw [← hW1]; exact (World.frozen?_alloc_past _ _ _ hz).trans (h0 o)
    exact ⟨h1 0, h1 1⟩
  obtain ⟨g, hgg⟩ : ∃ g, w1.heap.size = g := ⟨_, rfl⟩
  have hg4 : w.heap.size < W1.heap.size := by rw [← hW1, alloc_size]; omega
  rw [hgg] at hg ⊢
  have hgl := lt_get hg
  have HK := Lib.hid (show ∀ W, Below W1.heap.size W1 W → (W.cell? ⟨g, 0, none⟩ = some (.string nm) ∧ W.cell? ⟨g, 1, none⟩ = some (.bool au) ∧ W.cell? ⟨g, 2, none⟩ = some (.bool le) ∧ W.cell? ⟨g, 3, none⟩ = some (.bool pa) ∧ W.cell? ⟨g, 4, none⟩ = some (.bool be) ∧ W.cell? ⟨g, 5, none⟩ = some (.bool co) ∧ W.cell? ⟨g, 6, none⟩ = some (.bool nu) ∧ W.cell? ⟨g, 7, none⟩ = some (.slice wa ws.length ws.length) ∧ W.cell? ⟨g, 8, none⟩ = some (.int .i64 kk) ∧ W.cell? ⟨g, 9, none⟩ = some (.int .i64 nn)) from fun W hW => by
    have h := (hW.block g hgl).trans hg
    exact ⟨(cell_of_row _ _ _ _ _ _ h).trans rfl, (cell_of_row _ _ _ _ _ _ h).trans rfl, (cell_of_row _ _ _ _ _ _ h).trans rfl, (cell_of_row _ _ _ _ _ _ h).trans rfl, (cell_of_row _ _ _ _ _ _ h).trans rfl, (cell_of_row _ _ _ _ _ _ h).trans rfl, (cell_of_row _ _ _ _ _ _ h).trans rfl, (cell_of_row _ _ _ _ _ _ h).trans rfl, (cell_of_row _ _ _ _ _ _ h).trans rfl, (cell_of_row _ _ _ _ _ _ h).trans rfl⟩)
  obtain ⟨c0, c1, c2, c3, c4, c5, c6, c7, c8, c9⟩ := HK.out W1 (Below.refl _ _)
  clear hg hW1 hS p1 hB hgg hO
  have HK2 := Lib.hid (show ∀ W, Below W1.heap.size W1 W → (Below W1.heap.size W1 W ∧ W.cell? ⟨g, 0, none⟩ = some (.string nm) ∧ W.cell? ⟨g, 1, none⟩ = some (.bool au) ∧ W.cell? ⟨g, 2, none⟩ = some (.bool le) ∧ W.cell? ⟨g, 3, none⟩ = some (.bool pa) ∧ W.cell? ⟨g, 4, none⟩ = some (.bool be) ∧ W.cell? ⟨g, 5, none⟩ = some (.bool co) ∧ W.cell? ⟨g, 6, none⟩ = some (.bool nu) ∧ W.cell? ⟨g, 7, none⟩ = some (.slice wa ws.length ws.length) ∧ W.cell? ⟨g, 8, none⟩ = some (.int .i64 kk) ∧ W.cell? ⟨g, 9, none⟩ = some (.int .i64 nn)) from fun W hW => ⟨hW, HK.out W hW⟩)
  have hB0 : Below W1.heap.size W1 W1 := Below.refl _ _
  have hKeep := HK2.out
  clear HK2 HK
  go_region_held3 (fun W => Below W1.heap.size W1 W ∧ W.cell? ⟨g, 0, none⟩ = some (.string nm) ∧ W.cell? ⟨g, 1, none⟩ = some (.bool au) ∧ W.cell? ⟨g, 2, none⟩ = some (.bool le) ∧ W.cell? ⟨g, 3, none⟩ = some (.bool pa) ∧ W.cell? ⟨g, 4, none⟩ = some (.bool be) ∧ W.cell? ⟨g, 5, none⟩ = some (.bool co) ∧ W.cell? ⟨g, 6, none⟩ = some (.bool nu) ∧ W.cell? ⟨g, 7, none⟩ = some (.slice wa ws.length ws.length) ∧ W.cell? ⟨g, 8, none⟩ = some (.int .i64 kk) ∧ W.cell? ⟨g, 9, none⟩ = some (.int .i64 nn))
    (first | exact hKeep _ (below_drew1 hB0) | exact hKeep _ (below_alloc (below_drew1 hB0) _) | exact hKeep _ b4 | exact hKeep _ (below_alloc b4 _) | exact hKeep _ b3 | exact hKeep _ (below_alloc b3 _) | exact hKeep _ b2 | exact hKeep _ (below_alloc b2 _) | exact hKeep _ ((b4.setCell (by exact b3.size) _).setCell (by exact b3.size) _) | exact hKeep _ ((b4.setCell (by exact b2.size) _).setCell (by exact b2.size) _) | exact hKeep _ ((b4.setCell (by exact Nat.le_refl _) _).setCell (by exact Nat.le_refl _) _) | exact hKeep _ (((below_alloc b4 _).setCell (by exact b4.size) _).setCell (by exact b4.size) _) | go_keep)
    ((first
    | (go_at_call 91; refine (hT _).mono ?_; rintro e w2 ⟨rfl, hB2⟩; have b2 : Below W1.heap.size W1 w2 := (by first | exact below_then (below_drew1 hB0) (Nat.le_refl _) hB2 | exact below_then (below_alloc (below_drew1 hB0) _) (below_alloc (below_drew1 hB0) _).size hB2); obtain ⟨hc2, hf2⟩ := bcell hB2; (try have z2 : W1.heap.size < w2.heap.size := (by have q : (W1.alloc (Obj.cells #[.int .i64 0, .int .i64 0] 109)).heap.size ≤ w2.heap.size := hB2.size; rw [alloc_size] at q; exact q)))
    | (go_at_call 41; refine (hL _).mono ?_; rintro e w3 ⟨rfl, hB3⟩; have b3 : Below W1.heap.size W1 w3 := (by first | exact below_then b2 b2.size hB3 | exact below_then (below_alloc b2 _) (below_alloc b2 _).size hB3); obtain ⟨hc3, hf3⟩ := bcell hB3; (try have z3 : w2.heap.size < w3.heap.size := (by have q := hB3.size; rw [alloc_size] at q; exact q)); (try have yz23 : W1.heap.size < w3.heap.size := Nat.lt_of_lt_of_le z2 hB3.size))
    | (go_at_call 145; refine (HA.out _ _ _ _ _ _ (by first | exact HS1.out.below b3 | exact HS1.out.below (below_alloc b3 _))).mono ?_; rintro e w4 ⟨rfl, hB4⟩; have b4 : Below W1.heap.size W1 w4 := (by first | exact below_then b3 b3.size hB4 | exact below_then (below_alloc b3 _) (below_alloc b3 _).size hB4); obtain ⟨hc4, hf4⟩ := bcell hB4; (try have z4 : w3.heap.size < w4.heap.size := (by have q := hB4.size; rw [alloc_size] at q; exact q)); (try have yz34 : w2.heap.size < w4.heap.size := Nat.lt_of_lt_of_le z3 hB4.size); (try have yyz234 : W1.heap.size < w4.heap.size := Nat.lt_of_lt_of_le yz23 hB4.size))))
  all_goals
    have s2 : w.heap.size < w2.heap.size := Nat.lt_of_lt_of_le hg4 b2.size
    have s3 : w.heap.size < w3.heap.size := Nat.lt_of_lt_of_le hg4 b3.size
    have s4 : w.heap.size < w4.heap.size := Nat.lt_of_lt_of_le hg4 b4.size
    have P4 := Lib.hid (below_then P1.out P1.out.size b4)
    have k40 : w4.cell? ⟨w.heap.size, 0, none⟩ = some (.int .i64 0) := (b4.cell (p := ⟨w.heap.size, 0, none⟩) hg4).trans hcell4.1
    have k41 : w4.cell? ⟨w.heap.size, 1, none⟩ = some (.int .i64 0) := (b4.cell (p := ⟨w.heap.size, 1, none⟩) hg4).trans hcell4.2
    have f40 : w4.frozen? ⟨w.heap.size, 0, none⟩ = false := (b4.frozen (p := ⟨w.heap.size, 0, none⟩) hg4).trans hfz.1
    have f41 : w4.frozen? ⟨w.heap.size, 1, none⟩ = false := (b4.frozen (p := ⟨w.heap.size, 1, none⟩) hg4).trans hfz.2
    try have t30 : w4.cell? ⟨w3.heap.size, 0, none⟩ = some (.int .i64 0) := by rw [hc4 _ _ (by rw [alloc_size]; omega)]; exact cell_of_row _ _ _ _ _ _ (heap_alloc_new _ _)
    try have t20 : w4.cell? ⟨w2.heap.size, 0, none⟩ = some (.int .i64 0) := by rw [hc4 _ _ z3, hc3 _ _ (by rw [alloc_size]; omega)]; exact cell_of_row _ _ _ _ _ _ (heap_alloc_new _ _)
    try have t10 : w4.cell? ⟨W1.heap.size, 0, none⟩ = some (.int .i64 0) := by rw [hc4 _ _ yz23, hc3 _ _ z2, hc2 _ _ (by show W1.heap.size < (W1.alloc _).heap.size; rw [alloc_size]; omega)]; exact cell_of_row _ _ _ _ _ _ (heap_alloc_new W1 _)
    try have t31 : w4.cell? ⟨w3.heap.size, 1, none⟩ = some (.int .i64 0) := by rw [hc4 _ _ (by rw [alloc_size]; omega)]; exact cell_of_row _ _ _ _ _ _ (heap_alloc_new _ _)
    try have t21 : w4.cell? ⟨w2.heap.size, 1, none⟩ = some (.int .i64 0) := by rw [hc4 _ _ z3, hc3 _ _ (by rw [alloc_size]; omega)]; exact cell_of_row _ _ _ _ _ _ (heap_alloc_new _ _)
    try have t11 : w4.cell? ⟨W1.heap.size, 1, none⟩ = some (.int .i64 0) := by rw [hc4 _ _ yz23, hc3 _ _ z2, hc2 _ _ (by show W1.heap.size < (W1.alloc _).heap.size; rw [alloc_size]; omega)]; exact cell_of_row _ _ _ _ _ _ (heap_alloc_new W1 _)
    clear hcell4 hfz hKeep hc hf hz HS1 P1 b2 b3 hc2 hc3 hc4 hf2 hf3 hf4 c0 c1 c2 c3 c4 c5 c6 c7 c8 c9
    cases c with
    | false =>
      have HK := Lib.hid (show readV p s = ((0, 0), false) from hR.out)
      clear hR
      go_wp2
      refine bodyPost_ret (v := .tuple #[.agg #[.int .i64 0, .int .i64 0], .bool false]) (by simp [results, Tryz.results108, go_sem, k40, k41, s4, s3, s2, hg4, Nat.ne_of_gt s4, Nat.ne_of_gt s3, Nat.ne_of_gt s2, Nat.ne_of_gt hg4, Nat.ne_of_lt s4, Nat.ne_of_lt s3, Nat.ne_of_lt s2, Nat.ne_of_lt hg4]) rfl ⟨(show _ = Ending.returned (Value.tuple #[.agg #[.int .i64 0, .int .i64 0], .bool false]) from rfl).trans (by rw [HK.out]), ?_⟩
      first | exact ((below_alloc P4.out _).setCell (by simp) _).setCell (by simp) _ | exact (((P4.out.setCell (by simp; omega) _).setCell (by simp; omega) _).setCell (by simp) _).setCell (by simp) _ | exact below_alloc ((P4.out.setCell (by simp) _).setCell (by simp) _) _
    | true =>
      cases m with
      | false =>
        have HK := Lib.hid (show readV p s = ((0, 0), false) from hR.out)
        clear hR
        go_wp2_with (go_at_call 74; refine (HMM.out _).mono ?_; rintro e w5 ⟨rfl, hB5⟩; obtain ⟨hc5, hf5⟩ := bcell hB5; have s5 : w.heap.size < w5.heap.size := (by have q := hB5.size; simp at q; omega); have k50 : w5.cell? ⟨w.heap.size, 0, none⟩ = some (.int .i64 0) := (by rw [hc5 _ _ (by simp; omega)]; simp [k40, s4, go_sem, Nat.ne_of_gt s4, Nat.ne_of_gt s3, Nat.ne_of_gt s2, Nat.ne_of_gt hg4, Nat.ne_of_lt s4, Nat.ne_of_lt s3, Nat.ne_of_lt s2, Nat.ne_of_lt hg4]); have k51 : w5.cell? ⟨w.heap.size, 1, none⟩ = some (.int .i64 0) := (by rw [hc5 _ _ (by simp; omega)]; simp [k41, s4, go_sem, Nat.ne_of_gt s4, Nat.ne_of_gt s3, Nat.ne_of_gt s2, Nat.ne_of_gt hg4, Nat.ne_of_lt s4, Nat.ne_of_lt s3, Nat.ne_of_lt s2, Nat.ne_of_lt hg4]))
        refine bodyPost_ret (v := .tuple #[.agg #[.int .i64 0, .int .i64 0], .bool false]) (by simp [results, Tryz.results108, go_sem, k50, k51, s5]) rfl ⟨(show _ = Ending.returned (Value.tuple #[.agg #[.int .i64 0, .int .i64 0], .bool false]) from rfl).trans (by rw [HK.out]), ?_⟩
        exact ((below_then (by first | exact below_alloc P4.out _ | exact (P4.out.setCell (by simp; omega) _).setCell (by simp; omega) _) (by first | exact (below_alloc P4.out _).size | (simp; omega)) hB5).setCell (by exact Nat.le_refl _) _).setCell (by exact Nat.le_refl _) _
      | true =>
        have HK := Lib.hid (show readV p s = ((a, b), true) from hR.out)
        clear hR
        go_wp2_with (go_at_call 74; refine (HMM.out _).mono ?_; rintro e w5 ⟨rfl, hB5⟩; obtain ⟨hc5, hf5⟩ := bcell hB5; have s5 : w.heap.size < w5.heap.size := (by have q := hB5.size; simp at q; omega); have k50 : w5.cell? ⟨w.heap.size, 0, none⟩ = some (.int .i64 0) := (by rw [hc5 _ _ (by simp; omega)]; simp [k40, s4, go_sem, Nat.ne_of_gt s4, Nat.ne_of_gt s3, Nat.ne_of_gt s2, Nat.ne_of_gt hg4, Nat.ne_of_lt s4, Nat.ne_of_lt s3, Nat.ne_of_lt s2, Nat.ne_of_lt hg4]); have k51 : w5.cell? ⟨w.heap.size, 1, none⟩ = some (.int .i64 0) := (by rw [hc5 _ _ (by simp; omega)]; simp [k41, s4, go_sem, Nat.ne_of_gt s4, Nat.ne_of_gt s3, Nat.ne_of_gt s2, Nat.ne_of_gt hg4, Nat.ne_of_lt s4, Nat.ne_of_lt s3, Nat.ne_of_lt s2, Nat.ne_of_lt hg4]))
        refine bodyPost_ret (v := .tuple #[.agg #[.int .i64 a, .int .i64 b], .bool true]) (by simp [results, Tryz.results108, go_sem, k50, k51, s5]) rfl ⟨(show _ = Ending.returned (Value.tuple #[.agg #[.int .i64 a, .int .i64 b], .bool true]) from rfl).trans (by rw [HK.out]), ?_⟩
        exact ((below_then (by first | exact below_alloc P4.out _ | exact (P4.out.setCell (by simp; omega) _).setCell (by simp; omega) _) (by first | exact (below_alloc P4.out _).size | (simp; omega)) hB5).setCell (by exact Nat.le_refl _) _).setCell (by exact Nat.le_refl _) _
end Go.Proofs.Val
set_option linter.unusedVariables false
set_option linter.unusedSimpArgs false
namespace Go.Proofs.Val
open Go.RowKit Go.Proofs Go.Proofs.YtolfpgccebdlpaaGreatDoorW.PrintWords
def printL (p : Nat) (k n : Int) : List UInt8 :=
  if mayV p k n = true then
    (if k = 1 then autoW else if k = 4 then 35 :: hexL n.toNat else if k = 5 then ((wordsP p).getD n.toNat ByteArray.empty).data.toList
      else if k = 2 then decL n ++ [112, 120] else if k = 3 then decL n ++ [37] else decL n)
  else []
def printV (p k n : Int) : ByteArray := ⟨(printL (cl p) k n).toArray⟩
theorem low_ge (p : Nat) : -63999999999 ≤ lowV p := by unfold lowV; split <;> omega
/-- what may be, by its kind -/
theorem may_kinds {p : Nat} {k n : Int} (h : mayV p k n = true) :
    (k = 1 ∧ n = 0 ∧ (rec0 p).auto = true) ∨ (k = 2 ∧ lowV p ≤ n ∧ n ≤ 63999999999 ∧ (rec0 p).length = true) ∨ (k = 3 ∧ 0 ≤ n ∧ n ≤ 63999999999 ∧ (rec0 p).part = true) ∨ (k = 4 ∧ 0 ≤ n ∧ n ≤ 16777215 ∧ (rec0 p).color = true) ∨ (k = 5 ∧ 0 ≤ n ∧ n < ((rec0 p).wn : Int)) ∨ (k = 6 ∧ lowV p ≤ n ∧ n ≤ 63999999999 ∧ (rec0 p).number = true) := by
  unfold mayV at h
  by_cases k1 : k = 1
  · rw [if_pos k1, Bool.and_eq_true, decide_eq_true_iff] at h; exact .inl ⟨k1, h.2, h.1⟩
  rw [if_neg k1] at h
  by_cases k2 : k = 2
  · rw [if_pos k2, Bool.and_eq_true, Bool.and_eq_true, decide_eq_true_iff, decide_eq_true_iff] at h; exact .inr (.inl ⟨k2, h.2.1, h.2.2, h.1⟩)
  rw [if_neg k2] at h
  by_cases k3 : k = 3
  · rw [if_pos k3, Bool.and_eq_true, Bool.and_eq_true, decide_eq_true_iff, decide_eq_true_iff] at h; exact .inr (.inr (.inl ⟨k3, h.2.1, h.2.2, h.1⟩))
  rw [if_neg k3] at h
  by_cases k4 : k = 4
  · rw [if_pos k4, Bool.and_eq_true, Bool.and_eq_true, decide_eq_true_iff, decide_eq_true_iff] at h; exact .inr (.inr (.inr (.inl ⟨k4, h.2.1, h.2.2, h.1⟩)))
  rw [if_neg k4] at h
  by_cases k5 : k = 5
  · rw [if_pos k5, Bool.and_eq_true, decide_eq_true_iff, decide_eq_true_iff] at h; exact .inr (.inr (.inr (.inr (.inl ⟨k5, h.1, h.2⟩))))
  rw [if_neg k5] at h
  by_cases k6 : k = 6
  · rw [if_pos k6, Bool.and_eq_true, Bool.and_eq_true, decide_eq_true_iff, decide_eq_true_iff] at h; exact .inr (.inr (.inr (.inr (.inr ⟨k6, h.2.1, h.2.2, h.1⟩))))
  rw [if_neg k6] at h
  cases h
set_option maxHeartbeats 4000000 in
set_option maxRecDepth 100000 in
theorem printC (p k n : Int) (w : World) (hT : Tbs w) :
    Calls Tryz.prog 77 #[.int .i64 p, .agg #[.int .i64 k, .int .i64 n]] w fun e w' => e = .returned (.string (printV p k n)) ∧ Below w.heap.size w w' := by
  have hM := fun w => mayP p k n w
  have HP := Lib.hid (show printV p k n = ⟨(if mayV (cl p) k n = true then
    (if k = 1 then autoW else if k = 4 then 35 :: hexL n.toNat else if k = 5 then ((wordsP (cl p)).getD n.toNat ByteArray.empty).data.toList
      else if k = 2 then decL n ++ [112, 120] else if k = 3 then decL n ++ [37] else decL n)
  else []).toArray⟩ from rfl)
  have p0 : Below w.heap.size w (w.alloc (.cells #[.int .i64 k, .int .i64 n] 109)) := (Below.refl _ _).alloc (Nat.le_refl _) _
  by_cases hm : mayV (cl p) k n = true
  · rw [if_pos hm] at HP
    rw [hm] at hM
    have hD := fun (h1 : -63999999999 ≤ n) (h2 : n ≤ 63999999999) w hT => decimalC n h1 h2 w hT
    have hw5 := wordsP_len (cl p) (cl_le p)
    rcases may_kinds hm with ⟨rfl, rfl, _⟩ | ⟨rfl, h1, h2, _⟩ | ⟨rfl, h1, h2, _⟩ | ⟨rfl, h1, h2, _⟩ | ⟨rfl, h1, h2⟩ | ⟨rfl, h1, h2, _⟩
    · have HK := Lib.hid (show printV p 1 0 = ⟨#[97, 117, 116, 111]⟩ from HP.out)
      clear HP hD hw5 hm
      go_enter Tryz.func77, Tryz.ntmps77
      go_wp2_with (go_at_call 74; refine (hM _).mono ?_; rintro e w1 ⟨rfl, hB1⟩; obtain ⟨hc, hf⟩ := bcell hB1; have hz : w.heap.size < w1.heap.size := (by have q := hB1.size; rw [alloc_size] at q; exact q))
      go_ret
      exact ⟨(show _ = Ending.returned (Value.string ⟨#[97, 117, 116, 111]⟩) from rfl).trans (by rw [HK.out]), p0.trans (hB1.mono p0.size)⟩
    · have q := low_ge (cl p)
      have hDD := hD (by omega) (by omega)
      have hl := decL_len n (by omega) (by omega)
      have hq : ((⟨(decL n).toArray⟩ : ByteArray) ++ ⟨#[112, 120]⟩) = ⟨(decL n ++ [112, 120]).toArray⟩ := ba_app (decL n) [112, 120]
      have hs := ba_size (decL n)
      have HK := Lib.hid (show printV p 2 n = ((⟨(decL n).toArray⟩ : ByteArray) ++ ⟨#[112, 120]⟩) by rw [hq]; exact HP.out)
      have hk : (⟨(decL n).toArray⟩ : ByteArray).size + (⟨#[112, 120]⟩ : ByteArray).size ≤ 9223372036854775807 := by rw [hs]; show _ + 2 ≤ _; omega
      generalize (⟨(decL n).toArray⟩ : ByteArray) = D at hDD hk HK
      clear HP hD hw5 hm hq hs hl q
      go_enter Tryz.func77, Tryz.ntmps77
      go_wp2_with (first | (go_at_call 74; refine (hM _).mono ?_; rintro e w1 ⟨rfl, hB1⟩; obtain ⟨hc, hf⟩ := bcell hB1; have hz : w.heap.size < w1.heap.size := (by have q := hB1.size; rw [alloc_size] at q; exact q)) | (go_at_call 122; refine (hDD _ (hT.below (p0.trans (hB1.mono p0.size)))).mono ?_; rintro e w2 ⟨rfl, hB2⟩))
      go_ret
      exact ⟨(show _ = Ending.returned (Value.string (D ++ ⟨#[112, 120]⟩)) from rfl).trans (by rw [HK.out]), below_then (p0.trans (hB1.mono p0.size)) (p0.trans (hB1.mono p0.size)).size hB2⟩
    · have q := low_ge (cl p)
      have hDD := hD (by omega) (by omega)
      have hl := decL_len n (by omega) (by omega)
      have hq : ((⟨(decL n).toArray⟩ : ByteArray) ++ ⟨#[37]⟩) = ⟨(decL n ++ [37]).toArray⟩ := ba_app (decL n) [37]
      have hs := ba_size (decL n)
      have HK := Lib.hid (show printV p 3 n = ((⟨(decL n).toArray⟩ : ByteArray) ++ ⟨#[37]⟩) by rw [hq]; exact HP.out)
      have hk : (⟨(decL n).toArray⟩ : ByteArray).size + (⟨#[37]⟩ : ByteArray).size ≤ 9223372036854775807 := by rw [hs]; show _ + 1 ≤ _; omega
      generalize (⟨(decL n).toArray⟩ : ByteArray) = D at hDD hk HK
      clear HP hD hw5 hm hq hs hl q
      go_enter Tryz.func77, Tryz.ntmps77
      go_wp2_with (first | (go_at_call 74; refine (hM _).mono ?_; rintro e w1 ⟨rfl, hB1⟩; obtain ⟨hc, hf⟩ := bcell hB1; have hz : w.heap.size < w1.heap.size := (by have q := hB1.size; rw [alloc_size] at q; exact q)) | (go_at_call 122; refine (hDD _ (hT.below (p0.trans (hB1.mono p0.size)))).mono ?_; rintro e w2 ⟨rfl, hB2⟩))
      go_ret
      exact ⟨(show _ = Ending.returned (Value.string (D ++ ⟨#[37]⟩)) from rfl).trans (by rw [HK.out]), below_then (p0.trans (hB1.mono p0.size)) (p0.trans (hB1.mono p0.size)).size hB2⟩
    · obtain ⟨u, rfl⟩ : ∃ u : Nat, n = (u : Int) := ⟨n.toNat, by omega⟩
      have hF := fun w hT => fmt16 u (by omega) w hT
      have ex : (⟨(49 :: hexL u).toArray⟩ : ByteArray).extract 1 (⟨(49 :: hexL u).toArray⟩ : ByteArray).size = ⟨(hexL u).toArray⟩ := by
        rw [Lib.extract_mk]
        congr 2
      have HK := Lib.hid (show printV p 4 (u : Int) = (⟨#[35]⟩ : ByteArray) ++ ((⟨(49 :: hexL u).toArray⟩ : ByteArray).extract 1 (⟨(49 :: hexL u).toArray⟩ : ByteArray).size) by rw [ex]; exact HP.out.trans (ba_app [35] (hexL u)).symm)
      have hz7 : (⟨(49 :: hexL u).toArray⟩ : ByteArray).size = 7 := rfl
      have e1 : ((16777216 + u : Nat) : Int) = 16777216 + (u : Int) := by omega
      rw [e1] at hF
      generalize (⟨(49 :: hexL u).toArray⟩ : ByteArray) = D at hF hz7 HK
      have hz1 : 1 ≤ D.size ∧ D.size ≤ 7 := by omega
      have hk : (⟨#[35]⟩ : ByteArray).size + (D.extract 1 D.size).size ≤ 9223372036854775807 := by rw [ByteArray.size_extract]; show 1 + _ ≤ _; omega
      clear HP hD hw5 hm ex hz7 e1
      go_enter Tryz.func77, Tryz.ntmps77
      go_wp2_with (first | (go_at_call 74; refine (hM _).mono ?_; rintro e w1 ⟨rfl, hB1⟩; obtain ⟨hc, hf⟩ := bcell hB1; have hz : w.heap.size < w1.heap.size := (by have q := hB1.size; rw [alloc_size] at q; exact q)) | (go_at_call 121; refine (hF _ (hT.below (p0.trans (hB1.mono p0.size)))).mono ?_; rintro e w2 ⟨rfl, hB2⟩))
      go_ret
      exact ⟨(show _ = Ending.returned (Value.string ((⟨#[35]⟩ : ByteArray) ++ D.extract 1 D.size)) from rfl).trans (by rw [HK.out]), below_then (p0.trans (hB1.mono p0.size)) (p0.trans (hB1.mono p0.size)).size hB2⟩
    · obtain ⟨u, rfl⟩ : ∃ u : Nat, n = (u : Int) := ⟨n.toNat, by omega⟩
      rw [hw5] at h2
      have hO := fun w => ofP p w
      have hul : u < (wordsP (cl p)).length := by omega
      have HK := Lib.hid (show printV p 5 (u : Int) = (wordsP (cl p)).getD u ByteArray.empty from HP.out.trans (by show (⟨((wordsP (cl p)).getD ((u : Int)).toNat ByteArray.empty).data.toList.toArray⟩ : ByteArray) = _; rw [Int.toNat_natCast]))
      have hW : ∀ w wa, WordsIn w wa (wordsP (cl p)) → ∃ b, wa = some ⟨b, 0, none⟩ ∧ w.cell? ⟨b, 0 + u, none⟩ = some (.string ((wordsP (cl p)).getD u ByteArray.empty)) := by
        intro w wa h
        rcases h.at_ with h | ⟨b, e, h⟩
        · rw [h] at hul; cases hul
        · exact ⟨b, e, h u hul⟩
      have hWL := wordsP_le (cl p)
      have hrec : ∀ wa, recV (recA (cl p) wa) = .agg #[.string (rec0 (cl p)).name, .bool (rec0 (cl p)).auto, .bool (rec0 (cl p)).length, .bool (rec0 (cl p)).part, .bool (rec0 (cl p)).below, .bool (rec0 (cl p)).color, .bool (rec0 (cl p)).number, .slice wa (wordsP (cl p)).length (wordsP (cl p)).length, .int .i64 (rec0 (cl p)).k, .int .i64 (rec0 (cl p)).n] := by
        intro wa
        rw [← hw5]
        rfl
      simp only [hrec] at hO
      generalize (wordsP (cl p)).getD u ByteArray.empty = D at hW HK
      generalize (rec0 (cl p)).name = nm at hO
      generalize (rec0 (cl p)).auto = au at hO
      generalize (rec0 (cl p)).length = le at hO
      generalize (rec0 (cl p)).part = pa at hO
      generalize (rec0 (cl p)).below = be at hO
      generalize (rec0 (cl p)).color = co at hO
      generalize (rec0 (cl p)).number = nu at hO
      generalize (rec0 (cl p)).k = kk at hO
      generalize (rec0 (cl p)).n = nn at hO
      have HW := Lib.hid hW
      have g1 : (u : Int) < ((wordsP (cl p)).length : Int) := by omega
      clear HP hD hw5 hm hrec hW h1 h2
      go_enter Tryz.func77, Tryz.ntmps77
      go_wp2_with (first | (go_at_call 74; refine (hM _).mono ?_; rintro e w1 ⟨rfl, hB1⟩; obtain ⟨hc, hf⟩ := bcell hB1; have hz : w.heap.size < w1.heap.size := (by have q := hB1.size; rw [alloc_size] at q; exact q)) | (go_at_call 116; refine (hO _).mono ?_; rintro e w2 ⟨wa, rfl, hS, hB2⟩; obtain ⟨b, rfl, hcl⟩ := HW.out w2 wa hS; clear hS; rw [Nat.zero_add] at hcl; obtain ⟨hc2, hf2⟩ := bcell hB2; have hz2 : w.heap.size < w2.heap.size := (by have q := hB2.size; omega); have hbl := World.block_lt_of_cell? _ _ hcl))
      go_ret
      exact ⟨(show _ = Ending.returned (Value.string D) from rfl).trans (by rw [HK.out]), below_alloc (below_then (p0.trans (hB1.mono p0.size)) (p0.trans (hB1.mono p0.size)).size hB2) _⟩
    · have q := low_ge (cl p)
      have hDD := hD (by omega) (by omega)
      have HK := Lib.hid (show printV p 6 n = (⟨(decL n).toArray⟩ : ByteArray) from HP.out)
      generalize (⟨(decL n).toArray⟩ : ByteArray) = D at hDD HK
      clear HP hD hw5 hm q
      go_enter Tryz.func77, Tryz.ntmps77
      go_wp2_with (first | (go_at_call 74; refine (hM _).mono ?_; rintro e w1 ⟨rfl, hB1⟩; obtain ⟨hc, hf⟩ := bcell hB1; have hz : w.heap.size < w1.heap.size := (by have q := hB1.size; rw [alloc_size] at q; exact q)) | (go_at_call 122; refine (hDD _ (hT.below (p0.trans (hB1.mono p0.size)))).mono ?_; rintro e w2 ⟨rfl, hB2⟩))
      go_ret
      exact ⟨(show _ = Ending.returned (Value.string D) from rfl).trans (by rw [HK.out]), below_then (p0.trans (hB1.mono p0.size)) (p0.trans (hB1.mono p0.size)).size hB2⟩
  · rw [if_neg hm] at HP
    rw [Bool.eq_false_iff.2 hm] at hM
    clear hm
    go_enter Tryz.func77, Tryz.ntmps77
    go_wp2_with (go_at_call 74; refine (hM _).mono ?_; rintro e w1 ⟨rfl, hB1⟩)
    go_ret
    exact ⟨(show _ = Ending.returned (Value.string ⟨#[]⟩) from rfl).trans (by rw [HP.out]), p0.trans (hB1.mono p0.size)⟩
end Go.Proofs.Val
set_option linter.unusedVariables false
set_option linter.unusedSimpArgs false
namespace Go.Proofs.Sht
open Go.Lib Go.Proofs.Scn
/-- a declaration: its property, kind, number; is it strong? -/
abbrev Dc := Int × Int × Int × Bool
def strongW : List UInt8 := [33, 105, 109, 112, 111, 114, 116, 97, 110, 116]
def propsV (n : ByteArray) : Int × Int :=
  if n.toList = [109, 97, 114, 103, 105, 110] then (4, 4)
  else if n.toList = [112, 97, 100, 100, 105, 110, 103] then (8, 4)
  else if n.toList = [98, 111, 114, 100, 101, 114, 45, 119, 105, 100, 116, 104] then (12, 4)
  else (Val.propV n, 1)
def sharedV (n : Nat) : List Nat := if n = 2 then [0, 1, 0, 1] else if n = 3 then [0, 1, 2, 1] else if n = 4 then [0, 1, 2, 3] else [0, 0, 0, 0]
/-- the values of the first so many texts, in order; none if one does not fit -/
def valsV (p : Int) (ts : List ByteArray) (im : Bool) (wh : List Nat) : Nat → Nat → List Dc → List Dc
  | 0, _, acc => acc
  | d + 1, i, acc =>
    let r := Val.readV (p + i) (ts.getD (wh.getD i 0) ByteArray.empty)
    if r.2 = true then valsV p ts im wh d (i + 1) (acc ++ [(p + i, r.1.1, r.1.2, im)]) else []
def textsV (many : Int) (t : ByteArray) : List ByteArray := if many = 4 then wordsV t else [t]
def declV (s : ByteArray) : List Dc :=
  let c := Lib.cut s.data.toList [58]
  let pm := propsV (lowV (trimV (ba c.1)))
  if c.2.2 = true ∧ pm.1 ≠ 0 then
    let t := lowV (trimV (ba c.2.1))
    let ts := textsV pm.2 (ba (Lib.trimSuffix t.data.toList strongW))
    if 0 < ts.length ∧ ts.length ≤ 4 then valsV pm.1 ts (Lib.hasSuffix t.data.toList strongW) (sharedV ts.length) pm.2.toNat 0 []
    else []
  else []
/-- of one part that is trimmed by the way -/
def partD (p : List UInt8) : List Dc := declV (ba (trimL p))
def declsV (s : ByteArray) : List Dc := (spl 59 s.data.toList).flatMap partD
end Go.Proofs.Sht
set_option linter.unusedVariables false
set_option linter.unusedSimpArgs false
namespace Go.Proofs.Sht
open Go.RowKit Go.Lib Go.Proofs.YtolfpgccebdlpaaGreatDoorW.PrintWords Go.Proofs.YtolfpgccebdlpaaGreatDoorW.PrintLast Go.Proofs.YtolfpgccebdlpaaGreatDoorW.PrintMore Go.Proofs.Tok
/-- a selector: its parts; is each close to the one ahead? -/
abbrev Sel := List Smp × List Bool
/-- a rule: its selectors, its declarations -/
abbrev Rl := List Sel × List Dc
def kSel : Kd Sel := Kd.pair (Kd.slice 80 kSmp) (Kd.slice 4 Kd.bool)
def kDc : Kd Dc := Kd.pair (Kd.int .i64) (Kd.pair (Kd.int .i64) (Kd.pair (Kd.int .i64) Kd.bool))
def kRl : Kd Rl := Kd.pair (Kd.slice 25 kSel) (Kd.slice 111 kDc)
def zSel : Sel := ([], [])
def zDc : Dc := (0, 0, 0, false)
def zRl : Rl := ([], [])
theorem two_open {α β : Type} {a : Kd α} {b : Kd β} {e1 e2 : Nat} {w : World} {x : List α × List β} {cs : List Value} (h : (Kd.pair (Kd.slice e1 a) (Kd.slice e2 b)).K w x cs) : ∃ A1 c1 A2 c2, cs = [.slice A1 x.1.length c1, .slice A2 x.2.length c2] ∧ x.1.length ≤ c1 ∧ a.C w A1 x.1.length x.1 ∧ x.2.length ≤ c2 ∧ b.C w A2 x.2.length x.2 := by
  obtain ⟨_, _, rfl, ⟨A1, c1, rfl, l1, g1⟩, ⟨A2, c2, rfl, l2, g2⟩⟩ := h
  exact ⟨A1, c1, A2, c2, rfl, l1, g1, l2, g2⟩
theorem at_two {α β : Type} {a : Kd α} {b : Kd β} {e1 e2 : Nat} {w : World} {A : Option Addr} {n : Nat} {xs : List (List α × List β)} (h : Kd.C (Kd.pair (Kd.slice e1 a) (Kd.slice e2 b)) w A n xs) (k : Nat) (hk : k < n) (hx : k < xs.length) : ∃ ad A1 c1 A2 c2, A = some ad ∧ w.cell? (ad.add (k * 2)) = some (.slice A1 xs[k].1.length c1) ∧ w.cell? ⟨(ad.add (k * 2)).block, (ad.add (k * 2)).off + 1, none⟩ = some (.slice A2 xs[k].2.length c2) ∧ xs[k].1.length ≤ c1 ∧ a.C w A1 xs[k].1.length xs[k].1 ∧ xs[k].2.length ≤ c2 ∧ b.C w A2 xs[k].2.length xs[k].2 := by
  obtain ⟨ad, c, e, _, hK, hc0⟩ := Kd.C_get h ([], []) (k : Int) (by omega) (by omega)
  have hg : xs.getD (k : Int).toNat ([], []) = xs[k] := by rw [Int.toNat_natCast, List.getD, List.getElem?_eq_getElem hx]; rfl
  rw [hg] at hK
  have hc : ∀ j u, c[j]? = some u → w.cell? (ad.add (k * 2 + j)) = some u := hc0
  obtain ⟨A1, c1, A2, c2, rfl, l1, g1, l2, g2⟩ := two_open hK
  exact ⟨ad, A1, c1, A2, c2, e, hc 0 _ rfl, by rw [← add_field _ _ 1 (by omega)]; exact hc 1 _ rfl, l1, g1, l2, g2⟩
theorem at_Dc {w : World} {A : Option Addr} {n : Nat} {xs : List Dc} (h : Kd.C kDc w A n xs) (k : Nat) (hk : k < n) (hx : k < xs.length) : ∃ ad, A = some ad ∧ w.cell? (ad.add (k * 4)) = some (.int .i64 xs[k].1) ∧ w.cell? ⟨(ad.add (k * 4)).block, (ad.add (k * 4)).off + 1, none⟩ = some (.int .i64 xs[k].2.1) ∧ w.cell? ⟨(ad.add (k * 4)).block, (ad.add (k * 4)).off + 2, none⟩ = some (.int .i64 xs[k].2.2.1) ∧ w.cell? ⟨(ad.add (k * 4)).block, (ad.add (k * 4)).off + 3, none⟩ = some (.bool xs[k].2.2.2) := by
  obtain ⟨ad, c, e, _, hK, hc0⟩ := Kd.C_get h zDc (k : Int) (by omega) (by omega)
  have hg : xs.getD (k : Int).toNat zDc = xs[k] := by rw [Int.toNat_natCast, List.getD, List.getElem?_eq_getElem hx]; rfl
  rw [hg] at hK
  have hc : ∀ j u, c[j]? = some u → w.cell? (ad.add (k * 4 + j)) = some u := hc0
  obtain ⟨_, _, rfl, rfl, ⟨_, _, rfl, rfl, ⟨_, _, rfl, rfl, rfl⟩⟩⟩ := hK
  exact ⟨ad, e, hc 0 _ rfl, by rw [← add_field _ _ 1 (by omega)]; exact hc 1 _ rfl, by rw [← add_field _ _ 2 (by omega)]; exact hc 2 _ rfl, by rw [← add_field _ _ 3 (by omega)]; exact hc 3 _ rfl⟩
theorem reps_map {α β : Type} {p : α → List Value → Prop} {q : β → List Value → Prop} {f : α → β} {z : Nat} {xs : List α} {l : List Value} (h : ∀ x cs, p x cs → q (f x) cs) (H : Reps p z xs l) : Reps q z (xs.map f) l := by
  refine ⟨by rw [List.length_map]; exact H.1, fun j y hj => ?_⟩
  rw [List.getElem?_map] at hj
  obtain ⟨x, hx, rfl⟩ := Option.map_eq_some_iff.1 hj
  exact h _ _ (H.2 j x hx)
theorem R_to {α β : Type} {d : Kd α} {d' : Kd β} {f : α → β} {e base : Nat} {ok : Nat → Prop} {w : World} {v : Value} {xs : List α} (hs : d'.sz = d.sz) (h : ∀ w ok x cs, d.M w base ok x cs → d'.M w base ok (f x) cs) (H : d.R e w base ok v xs) : d'.R e w base ok v (xs.map f) := by
  obtain ⟨h0, inner, ho, hr⟩ := H
  refine ⟨h0, inner, ?_, ?_⟩
  · rw [List.length_map, hs]; exact ho
  · rw [hs]; exact reps_map (fun x cs hx => h _ _ x cs hx) hr
theorem C_to {α β : Type} {d : Kd α} {d' : Kd β} {f : α → β} {w : World} {A : Option Addr} {n : Nat} {xs : List α} (hs : d'.sz = d.sz) (h : ∀ w x cs, d.K w x cs → d'.K w (f x) cs) (H : d.C w A n xs) : d'.C w A n (xs.map f) := by
  obtain ⟨h1, h2, h3⟩ := H
  refine ⟨by rw [List.length_map]; exact h1, h2, fun hn => ?_⟩
  obtain ⟨ad, e, hc⟩ := h3 hn
  refine ⟨ad, e, fun j p hj => ?_⟩
  rw [List.getElem?_map] at hj
  obtain ⟨x, hx, rfl⟩ := Option.map_eq_some_iff.1 hj
  rw [hs]
  obtain ⟨c, q1, q2, q3⟩ := hc j x hx
  exact ⟨c, q1, h _ _ _ q2, q3⟩
def maySel (x : Sel) : Bool := mayS x.1 x.2.length
def mayDc (d : Dc) : Bool := Val.mayV (Val.cl d.1) d.2.1 d.2.2.1
def fitS (x : Sel) : Prop := x.1.length ≤ 140737488355328 ∧ x.2.length ≤ 9223372036854775807 ∧ ∀ p ∈ x.1, fitX p
set_option maxHeartbeats 4000000 in
set_option maxRecDepth 400000 in
theorem mays_any (x : Sel) (hx : fitS x) (A1 : Option Addr) (c1 : Nat) (A2 : Option Addr) (c2 : Nat) (w : World) (C1 : Kd.C kSmp w A1 x.1.length x.1) :
    Calls Tryz.prog 71 #[.agg #[.slice A1 x.1.length c1, .slice A2 x.2.length c2]] w fun e w' => e = .returned (.bool (!maySel x)) ∧ Below w.heap.size w w' := by
  have hm := fun W hW => May_any x.1 A1 c1 A2 x.2.length c2 W (Kd.C_below C1 hW) hx.1 hx.2.1 hx.2.2
  unfold maySel
  generalize mayS x.1 x.2.length = r at hm ⊢
  generalize x.1.length = n1 at hm ⊢
  generalize x.2.length = n2 at hm ⊢
  have hu25 := Tryz.underlying25
  have HM := Aside0.mk hm
  clear hm C1
  go_enter Tryz.func71, Tryz.ntmps71
  go_wp2_with (first | (go_at_call 17; refine (HM.out _ (by repeat (first | exact Below.refl _ _ | apply below_alloc))).mono ?_; rintro e w' ⟨rfl, hB⟩))
  go_ret
  exact ⟨rfl, below_then (below_alloc (Below.refl _ _) _) (Nat.le_trans (Nat.le_succ _) (Nat.le_of_eq (alloc_size _ _).symm)) hB⟩
set_option maxHeartbeats 4000000 in
set_option maxRecDepth 400000 in
theorem mayd_any (p k n : Int) (s : Bool) (w : World) :
    Calls Tryz.prog 73 #[.agg #[.int .i64 p, .int .i64 k, .int .i64 n, .bool s]] w fun e w' => e = .returned (.bool (!mayDc (p, k, n, s))) ∧ Below w.heap.size w w' := by
  have hm := fun W => Val.mayP p k n W
  have hX : mayDc (p, k, n, s) = Val.mayV (Val.cl p) k n := rfl
  rw [hX]
  clear hX
  generalize Val.mayV (Val.cl p) k n = r at hm ⊢
  have hu := Tryz.underlying111
  have hu2 := Tryz.underlying109
  have HM := Aside0.mk hm
  clear hm
  go_enter Tryz.func73, Tryz.ntmps73
  go_wp2_with (first | (go_at_call 74; refine (HM.out _).mono ?_; rintro e w' ⟨rfl, hB⟩))
  go_ret
  exact ⟨rfl, below_then (below_alloc (Below.refl _ _) _) (Nat.le_trans (Nat.le_succ _) (Nat.le_of_eq (alloc_size _ _).symm)) hB⟩
set_option maxHeartbeats 4000000 in
set_option maxRecDepth 400000 in
theorem index_sels (xs : List Sel) (A : Option Addr) (c : Nat) (w : World) (C : Kd.C kSel w A xs.length xs) (hl : xs.length ≤ 8796093022208) (hs : ∀ x ∈ xs, fitS x) :
    Calls Tryz.prog 114 #[.slice A xs.length c, .func (.func 71) #[] #[]] w fun e w' => Below w.heap.size w w' ∧ ∃ i : Int, e = .returned (.int .i64 i) ∧ decide (0 ≤ i) = xs.any fun x => !maySel x := by
  have C0 := Aside0.mk C
  have HS := Aside0.mk hs
  clear hs
  clear C
  have hu44 := Tryz.underlying25
  go_enter Tryz.func114, Tryz.ntmps114
  go_wp2
  go_loopw [5, 8, 9, 10, 11, 12, 13, 14, 15, 16, 18] (fun _ i _ _ _ _ _ _ _ _ _ wr => ∃ k : Nat, k ≤ xs.length ∧ i = .int .i64 k ∧ Aside0 (((xs.take k).any fun x => !maySel x) = false) ∧ Aside0 (Below w.heap.size w wr)) (fun _ i _ _ _ _ _ _ _ _ _ _ => xs.length - (RowKit.intOf i).toNat)
  case atStart => exact ⟨0, Nat.zero_le _, rfl, ⟨rfl⟩, ⟨Below.refl _ _⟩⟩
  case round =>
    obtain ⟨k, hk, rfl, N1, B1⟩ := hrel
    by_cases hlt : k < xs.length
    · have g1 : decide ((k : Int) < (xs.length : Int)) = true := decide_eq_true (by omega)
      obtain ⟨ad, A1, c1, A2, c2, e, h0, h1, q1, C1, q2, C2⟩ := at_two C0.out k hlt hlt
      subst e
      have hB := fun (p : Addr) (v : Value) (h : w.cell? p = some v) => (B1.out.cell (World.block_lt_of_cell? _ _ h)).trans h
      have k0 := hB _ _ h0
      have k1 := hB _ _ h1
      have hx := fun W hW => mays_any xs[k] (HS.out _ (List.getElem_mem hlt)) A1 c1 A2 c2 W (Kd.C_below C1 hW)
      have T1 : Aside0 (((xs.take (k + 1)).any fun x => !maySel x) = (((xs.take k).any fun x => !maySel x) || !maySel xs[k])) := ⟨by rw [List.take_succ_eq_append_getElem hlt, List.any_append]; simp⟩
      have T2 : Aside0 (maySel xs[k] = false → (xs.any fun x => !maySel x) = true) := ⟨fun h => List.any_eq_true.2 ⟨xs[k], List.getElem_mem hlt, by rw [h]; rfl⟩⟩
      clear h0 h1 q1 q2 C1 C2 hB
      generalize xs[k] = x at hx k0 k1 T1 T2
      obtain ⟨b, hb⟩ : ∃ b, maySel x = b := ⟨_, rfl⟩
      have HN := Aside0.mk hb
      rw [hb] at hx
      have HX := Aside0.mk hx
      clear hb hx
      cases b with
      | false =>
        go_wp2_with (first | (go_at_call 71; refine (HX.out _ B1.out).mono ?_; rintro e w' ⟨rfl, hB⟩))
        go_ret
        exact ⟨below_then B1.out B1.out.size hB, _, rfl, by rw [T2.out HN.out]; simp⟩
      | true =>
        go_wp2_with (first | (go_at_call 71; refine (HX.out _ B1.out).mono ?_; rintro e w' ⟨rfl, hB⟩))
        exact ⟨⟨k + 1, by omega, by go_num, ⟨by rw [T1.out, N1.out, HN.out]; rfl⟩, ⟨below_then B1.out B1.out.size hB⟩⟩, by simp [RowKit.intOf]; omega⟩
    · obtain rfl : k = xs.length := by omega
      have g1 : decide ((xs.length : Int) < (xs.length : Int)) = false := decide_eq_false (by omega)
      have hN := N1.out
      rw [List.take_length] at hN
      have N2 := Aside0.mk hN
      clear hN N1
      go_wp2
      go_ret
      exact ⟨B1.out, _, rfl, by rw [N2.out]; rfl⟩
set_option maxHeartbeats 2000000 in
set_option maxRecDepth 400000 in
theorem contains_sels (xs : List Sel) (A : Option Addr) (c : Nat) (w : World) (C : Kd.C kSel w A xs.length xs) (hl : xs.length ≤ 8796093022208) (hs : ∀ x ∈ xs, fitS x) :
    Calls Tryz.prog 70 #[.slice A xs.length c, .func (.func 71) #[] #[]] w fun e w' => e = .returned (.bool (xs.any fun x => !maySel x)) ∧ Below w.heap.size w w' := by
  have hi := index_sels xs A c w C hl hs
  clear C
  generalize (xs.any fun x => !maySel x) = r at hi ⊢
  go_enter Tryz.func70, Tryz.ntmps70
  go_wp2_with (first | (go_at_call 114; refine hi.mono ?_; rintro e w' ⟨hB, i, rfl, hd⟩))
  go_ret
  exact ⟨by rw [← hd]; rfl, hB⟩
set_option maxHeartbeats 4000000 in
set_option maxRecDepth 400000 in
theorem index_decls (xs : List Dc) (A : Option Addr) (c : Nat) (w : World) (C : Kd.C kDc w A xs.length xs) (hl : xs.length ≤ 8796093022208) :
    Calls Tryz.prog 115 #[.slice A xs.length c, .func (.func 73) #[] #[]] w fun e w' => Below w.heap.size w w' ∧ ∃ i : Int, e = .returned (.int .i64 i) ∧ decide (0 ≤ i) = xs.any fun x => !mayDc x := by
  have C0 := Aside0.mk C
  clear C
  have hu44 := Tryz.underlying111
  go_enter Tryz.func115, Tryz.ntmps115
  go_wp2
  go_loopw [5, 8, 9, 10, 11, 12, 13, 14, 15, 16, 18] (fun _ i _ _ _ _ _ _ _ _ _ wr => ∃ k : Nat, k ≤ xs.length ∧ i = .int .i64 k ∧ Aside0 (((xs.take k).any fun x => !mayDc x) = false) ∧ Aside0 (Below w.heap.size w wr)) (fun _ i _ _ _ _ _ _ _ _ _ _ => xs.length - (RowKit.intOf i).toNat)
  case atStart => exact ⟨0, Nat.zero_le _, rfl, ⟨rfl⟩, ⟨Below.refl _ _⟩⟩
  case round =>
    obtain ⟨k, hk, rfl, N1, B1⟩ := hrel
    by_cases hlt : k < xs.length
    · have g1 : decide ((k : Int) < (xs.length : Int)) = true := decide_eq_true (by omega)
      obtain ⟨ad, e, h0, h1, h2, h3⟩ := at_Dc C0.out k hlt hlt
      subst e
      have hB := fun (p : Addr) (v : Value) (h : w.cell? p = some v) => (B1.out.cell (World.block_lt_of_cell? _ _ h)).trans h
      have k0 := hB _ _ h0
      have k1 := hB _ _ h1
      have k2 := hB _ _ h2
      have k3 := hB _ _ h3
      have hx := fun W hW => (fun _ => mayd_any xs[k].1 xs[k].2.1 xs[k].2.2.1 xs[k].2.2.2 W) (hW : Below w.heap.size w W)
      have T1 : Aside0 (((xs.take (k + 1)).any fun x => !mayDc x) = (((xs.take k).any fun x => !mayDc x) || !mayDc xs[k])) := ⟨by rw [List.take_succ_eq_append_getElem hlt, List.any_append]; simp⟩
      have T2 : Aside0 (mayDc xs[k] = false → (xs.any fun x => !mayDc x) = true) := ⟨fun h => List.any_eq_true.2 ⟨xs[k], List.getElem_mem hlt, by rw [h]; rfl⟩⟩
      clear h0 h1 h2 h3 hB
      generalize xs[k] = x at hx k0 k1 k2 k3 T1 T2
      obtain ⟨x1, x2, x3, x4⟩ := x
      dsimp only at hx k0 k1 k2 k3
      obtain ⟨b, hb⟩ : ∃ b, mayDc (x1, x2, x3, x4) = b := ⟨_, rfl⟩
      have HN := Aside0.mk hb
      rw [hb] at hx
      have HX := Aside0.mk hx
      clear hb hx
      cases b with
      | false =>
        go_wp2_with (first | (go_at_call 73; refine (HX.out _ B1.out).mono ?_; rintro e w' ⟨rfl, hB⟩))
        go_ret
        exact ⟨below_then B1.out B1.out.size hB, _, rfl, by rw [T2.out HN.out]; simp⟩
      | true =>
        go_wp2_with (first | (go_at_call 73; refine (HX.out _ B1.out).mono ?_; rintro e w' ⟨rfl, hB⟩))
        exact ⟨⟨k + 1, by omega, by go_num, ⟨by rw [T1.out, N1.out, HN.out]; rfl⟩, ⟨below_then B1.out B1.out.size hB⟩⟩, by simp [RowKit.intOf]; omega⟩
    · obtain rfl : k = xs.length := by omega
      have g1 : decide ((xs.length : Int) < (xs.length : Int)) = false := decide_eq_false (by omega)
      have hN := N1.out
      rw [List.take_length] at hN
      have N2 := Aside0.mk hN
      clear hN N1
      go_wp2
      go_ret
      exact ⟨B1.out, _, rfl, by rw [N2.out]; rfl⟩
set_option maxHeartbeats 2000000 in
set_option maxRecDepth 400000 in
theorem contains_decls (xs : List Dc) (A : Option Addr) (c : Nat) (w : World) (C : Kd.C kDc w A xs.length xs) (hl : xs.length ≤ 8796093022208) :
    Calls Tryz.prog 72 #[.slice A xs.length c, .func (.func 73) #[] #[]] w fun e w' => e = .returned (.bool (xs.any fun x => !mayDc x)) ∧ Below w.heap.size w w' := by
  have hi := index_decls xs A c w C hl
  clear C
  generalize (xs.any fun x => !mayDc x) = r at hi ⊢
  go_enter Tryz.func72, Tryz.ntmps72
  go_wp2_with (first | (go_at_call 115; refine hi.mono ?_; rintro e w' ⟨hB, i, rfl, hd⟩))
  go_ret
  exact ⟨by rw [← hd]; rfl, hB⟩
def mayR (r : Rl) : Bool := !(r.1.length == 0) && (decide (r.1.length ≤ 20) && (decide (r.2.length ≤ 60) && (!(r.1.any fun x => !maySel x) && !(r.2.any fun x => !mayDc x))))
def mayL (l : List Rl) : Bool := l.all mayR && decide (l.length ≤ 40)
def fitR (r : Rl) : Prop := r.1.length ≤ 8796093022208 ∧ r.2.length ≤ 8796093022208 ∧ ∀ x ∈ r.1, fitS x
theorem one_below {w wr W : World} {o : Obj} (h : Below w.heap.size w wr) (hB : Below (wr.alloc o).heap.size (wr.alloc o) W) : Below w.heap.size w W := by
  have hs := h.size
  exact below_then (below_alloc h _) (by rw [alloc_size]; omega) hB
theorem box_cell {wr W : World} {cs : Array Value} {t : Nat} (hB : Below (wr.alloc (.cells cs t)).heap.size (wr.alloc (.cells cs t)) W) {j : Nat} {v : Value} (h : cs[j]? = some v) : W.cell? ⟨wr.heap.size, j, none⟩ = some v :=
  (hB.cell (p := ⟨wr.heap.size, j, none⟩) (by rw [alloc_size]; show wr.heap.size < _; omega)).trans (alloc_cell _ _ _ _ _ h)
set_option maxHeartbeats 4000000 in
set_option maxRecDepth 400000 in
theorem MayC (xs : List Rl) (A : Option Addr) (c : Nat) (w : World) (C : Kd.C kRl w A xs.length xs) (hl : xs.length ≤ 8796093022208) (hs : ∀ r ∈ xs, fitR r) :
    Calls Tryz.prog 34 #[.slice A xs.length c] w fun e w' => e = .returned (.bool (mayL xs)) ∧ Below w.heap.size w w' := by
  have C0 := Aside0.mk C
  have HS := Aside0.mk hs
  clear C hs
  have hu := Tryz.underlying115
  go_enter Tryz.func34, Tryz.ntmps34
  go_wp2
  go_loopw [4, 7, 8, 9, 10, 11, 12, 13, 14, 15, 16, 17, 18, 19, 20, 21, 22, 23, 24, 25, 26, 27, 28, 29, 30, 31, 32, 33] (fun _ i _ _ _ _ _ _ _ _ _ _ _ _ _ _ _ _ _ _ _ _ _ _ _ _ _ _ wr => ∃ k : Nat, k ≤ xs.length ∧ i = .int .i64 k ∧ Aside0 ((xs.take k).all mayR = true) ∧ Aside0 (Below w.heap.size w wr)) (fun _ i _ _ _ _ _ _ _ _ _ _ _ _ _ _ _ _ _ _ _ _ _ _ _ _ _ _ _ => xs.length - (RowKit.intOf i).toNat)
  case atStart => exact ⟨0, Nat.zero_le _, rfl, ⟨rfl⟩, ⟨Below.refl _ _⟩⟩
  case round =>
    obtain ⟨k, hk, rfl, N1, B1⟩ := hrel
    by_cases hlt : k < xs.length
    · have g1 : decide ((k : Int) < (xs.length : Int)) = true := decide_eq_true (by omega)
      obtain ⟨ad, A1, c1, A2, c2, e, h0, h1, q1, C1, q2, C2⟩ := at_two C0.out k hlt hlt
      subst e
      have hB := fun (p : Addr) (v : Value) (h : w.cell? p = some v) => (B1.out.cell (World.block_lt_of_cell? _ _ h)).trans h
      have x0 := hB _ _ h0
      have x1 := hB _ _ h1
      have F := HS.out _ (List.getElem_mem hlt)
      have H1 := Aside0.mk (fun W (hW : Below w.heap.size w W) => contains_sels xs[k].1 A1 c1 W (Kd.C_below C1 hW) F.1 F.2.2)
      have H2 := Aside0.mk (fun W (hW : Below w.heap.size w W) => contains_decls xs[k].2 A2 c2 W (Kd.C_below C2 hW) F.2.1)
      have T1 : Aside0 ((xs.take (k + 1)).all mayR = ((xs.take k).all mayR && mayR xs[k])) := ⟨by rw [List.take_succ_eq_append_getElem hlt, List.all_append]; simp⟩
      have T2 : Aside0 (mayR xs[k] = false → mayL xs = false) := ⟨fun h => by
        unfold mayL
        rw [List.all_eq_false.2 ⟨xs[k], List.getElem_mem hlt, by rw [h]; decide⟩]
        rfl⟩
      have HM : Aside0 (mayR xs[k] = (!(xs[k].1.length == 0) && (decide (xs[k].1.length ≤ 20) && (decide (xs[k].2.length ≤ 60) && (!(xs[k].1.any fun x => !maySel x) && !(xs[k].2.any fun x => !mayDc x)))))) := ⟨rfl⟩
      have L1 := F.1
      have L2 := F.2.1
      clear h0 h1 q1 q2 C1 C2 F hB
      generalize mayR xs[k] = b at T1 T2 HM
      obtain ⟨r1, hr1⟩ : ∃ r, (xs[k].1.any fun x => !maySel x) = r := ⟨_, rfl⟩
      obtain ⟨r2, hr2⟩ : ∃ r, (xs[k].2.any fun x => !mayDc x) = r := ⟨_, rfl⟩
      obtain ⟨n1, hn1⟩ : ∃ n, xs[k].1.length = n := ⟨_, rfl⟩
      obtain ⟨n2, hn2⟩ : ∃ n, xs[k].2.length = n := ⟨_, rfl⟩
      rw [hr1, hr2, hn1, hn2] at HM
      rw [hr1, hn1] at H1
      rw [hr2, hn2] at H2
      rw [hn1] at x0 L1
      rw [hn2] at x1 L2
      clear hr1 hr2 hn1 hn2
      have Y1 := Aside0.mk (fun (W : World) (hb : Below (wr.alloc (.cells #[.slice A1 n1 c1, .slice A2 n2 c2] 115)).heap.size (wr.alloc (.cells #[.slice A1 n1 c1, .slice A2 n2 c2] 115)) W) => box_cell hb (j := 1) rfl)
      by_cases z0 : n1 = 0
      · subst z0
        as_aux_lemma =>
        go_wp2
        go_ret
        exact ⟨by rw [T2.out (by rw [HM.out]; rfl)]; rfl, below_alloc B1.out _⟩
      have e0 : ((n1 : Int) == 0) = false := beq_eq_false_iff_ne.2 (by omega)
      have f0 : (n1 == 0) = false := beq_eq_false_iff_ne.2 z0
      by_cases z20 : n1 ≤ 20
      · have e20 : decide ((20 : Int) < (n1 : Int)) = false := decide_eq_false (by omega)
        by_cases z60 : n2 ≤ 60
        · have e60 : decide ((60 : Int) < (n2 : Int)) = false := decide_eq_false (by omega)
          cases r1 with
          | true =>
            as_aux_lemma =>
            go_wp2_with (first | (go_at_call 70; refine (H1.out _ (below_alloc B1.out _)).mono ?_; rintro e w' ⟨rfl, hB⟩))
            go_ret
            exact ⟨by rw [T2.out (by rw [HM.out]; simp)]; rfl, one_below B1.out hB⟩
          | false =>
            cases r2 with
            | true =>
              as_aux_lemma =>
              go_wp2_with (first | (go_at_call 70; refine (H1.out _ (below_alloc B1.out _)).mono ?_; rintro e w' ⟨rfl, hB⟩; have y1 := Y1.out _ hB; have HBB := Aside0.mk (one_below B1.out hB); clear hB) | (go_at_call 72; refine (H2.out _ HBB.out).mono ?_; rintro e w2 ⟨rfl, hB⟩))
              go_ret
              exact ⟨by rw [T2.out (by rw [HM.out]; simp)]; rfl, below_then HBB.out HBB.out.size hB⟩
            | false =>
              have HT : Aside0 (b = true) := ⟨by rw [HM.out, f0, decide_eq_true z20, decide_eq_true z60]; rfl⟩
              as_aux_lemma =>
              go_wp2_with (first | (go_at_call 70; refine (H1.out _ (below_alloc B1.out _)).mono ?_; rintro e w' ⟨rfl, hB⟩; have y1 := Y1.out _ hB; have HBB := Aside0.mk (one_below B1.out hB); clear hB) | (go_at_call 72; refine (H2.out _ HBB.out).mono ?_; rintro e w2 ⟨rfl, hB⟩))
              exact ⟨⟨k + 1, by omega, by go_num, ⟨by rw [T1.out, N1.out, HT.out]; rfl⟩, ⟨below_then HBB.out HBB.out.size hB⟩⟩, by simp [RowKit.intOf]; omega⟩
        · have e60 : decide ((60 : Int) < (n2 : Int)) = true := decide_eq_true (by omega)
          as_aux_lemma =>
          go_wp2
          go_ret
          exact ⟨by rw [T2.out (by rw [HM.out, decide_eq_false z60]; simp)]; rfl, below_alloc B1.out _⟩
      · have e20 : decide ((20 : Int) < (n1 : Int)) = true := decide_eq_true (by omega)
        as_aux_lemma =>
        go_wp2
        go_ret
        exact ⟨by rw [T2.out (by rw [HM.out, decide_eq_false z20]; simp)]; rfl, below_alloc B1.out _⟩
    · obtain rfl : k = xs.length := by omega
      have g1 : decide ((xs.length : Int) < (xs.length : Int)) = false := decide_eq_false (by omega)
      have hN := N1.out
      rw [List.take_length] at hN
      have HM : Aside0 (mayL xs = decide (xs.length ≤ 40)) := ⟨by unfold mayL; rw [hN]; rfl⟩
      clear hN N1
      by_cases z : xs.length ≤ 40
      · have e40 : decide ((xs.length : Int) ≤ 40) = true := decide_eq_true (by omega)
        go_wp2
        go_ret
        exact ⟨by rw [HM.out, decide_eq_true z]; rfl, B1.out⟩
      · have e40 : decide ((xs.length : Int) ≤ 40) = false := decide_eq_false (by omega)
        go_wp2
        go_ret
        exact ⟨by rw [HM.out, decide_eq_false z]; rfl, B1.out⟩
end Go.Proofs.Sht
