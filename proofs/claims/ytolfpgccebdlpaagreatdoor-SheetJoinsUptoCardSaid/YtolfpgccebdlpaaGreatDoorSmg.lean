/- selector.Same: contracts proved by walking its text; no condition beside those that each theorem states. -/
import Derived.Test.YtolfpgccebdlpaaGreatDoorTkB
import Derived.Test.YtolfpgccebdlpaaGreatDoorScC
import Derived.Test.YtolfpgccebdlpaaGreatDoorVaG
import Derived.Test.YtolfpgccebdlpaaGreatDoorScO
import Derived.WideShapes
import Derived.SizedLaws
set_option linter.unusedVariables false
set_option linter.unusedSimpArgs false
namespace Go.Proofs.Tok
open Go.RowKit Go.Lib Go.Proofs.YtolfpgccebdlpaaGreatDoorW.PrintWords Go.Proofs.YtolfpgccebdlpaaGreatDoorW.PrintLast Go.Proofs.YtolfpgccebdlpaaGreatDoorW.PrintMore
theorem take_eq {α : Type} {xs ys : List α} {k : Nat} (h : xs.take k = ys.take k) (hx : k < xs.length) (hy : k < ys.length) (e : xs[k] = ys[k]) : xs.take (k + 1) = ys.take (k + 1) := by
  rw [List.take_succ_eq_append_getElem hx, List.take_succ_eq_append_getElem hy, h, e]
theorem str_cell {w : World} {A : Option Addr} {n : Nat} {xs : List ByteArray} (h : Kd.C Kd.string w A n xs) (k : Nat) (hk : k < n) (hx : k < xs.length) : ∃ ad, A = some ad ∧ w.cell? (ad.add k) = some (.string xs[k]) := by
  obtain ⟨ad, e, hc⟩ := Kd.at_string h (k : Int) (by omega) (by omega)
  have hg : rdOf ByteArray.empty xs (k : Int) = xs[k] := by
    unfold rdOf
    rw [Int.toNat_natCast, List.getD, List.getElem?_eq_getElem hx]
    rfl
  rw [hg, Int.toNat_natCast] at hc
  exact ⟨ad, e, hc⟩
theorem bool_cell {w : World} {A : Option Addr} {n : Nat} {xs : List Bool} (h : Kd.C Kd.bool w A n xs) (k : Nat) (hk : k < n) (hx : k < xs.length) : ∃ ad, A = some ad ∧ w.cell? (ad.add k) = some (.bool xs[k]) := by
  obtain ⟨ad, e, hc⟩ := Kd.at_bool h (k : Int) (by omega) (by omega)
  have hg : rdOf false xs (k : Int) = xs[k] := by
    unfold rdOf
    rw [Int.toNat_natCast, List.getD, List.getElem?_eq_getElem hx]
    rfl
  rw [hg, Int.toNat_natCast] at hc
  exact ⟨ad, e, hc⟩
set_option maxHeartbeats 4000000 in
set_option maxRecDepth 400000 in
theorem eq_strs (xs ys : List ByteArray) (A0 A1 : Option Addr) (c0 c1 : Nat) (w : World) (C0 : Kd.C Kd.string w A0 xs.length xs) (C1 : Kd.C Kd.string w A1 ys.length ys) (hl : xs.length ≤ 9223372036854775807) (hl1 : ys.length ≤ 9223372036854775807) :
    Calls Tryz.prog 61 #[.slice A0 xs.length c0, .slice A1 ys.length c1] w fun e w' => e = .returned (.bool (decide (xs = ys))) ∧ Drawn0 w w' := by
  have D0 := Aside0.mk C0
  have D1 := Aside0.mk C1
  clear C0 C1
  by_cases hn : xs.length = ys.length
  · have HN := Aside0.mk hn
    have e0 : (((xs.length : Nat) : Int) == ((xs.length : Nat) : Int)) = true := by simp
    rw [← hn]
    obtain ⟨r, hr⟩ : ∃ r, decide (xs = ys) = r := ⟨_, rfl⟩
    have HR := Aside0.mk hr
    rw [hr]
    clear hr hn hl1
    obtain ⟨n, hn⟩ : ∃ n, xs.length = n := ⟨_, rfl⟩
    have HX := Aside0.mk hn
    rw [hn] at HN e0 hl ⊢
    clear hn
    go_enter Tryz.func61, Tryz.ntmps61
    go_wp2
    go_loopw [5, 13, 14, 15, 16, 17, 18, 19, 20, 21, 22, 23, 24, 25] (fun _ i _ _ _ _ _ _ _ _ _ _ _ _ wr => ∃ k : Nat, k ≤ n ∧ i = .int .i64 k ∧ Aside0 (xs.take k = ys.take k) ∧ Aside0 (Drawn0 w wr)) (fun _ i _ _ _ _ _ _ _ _ _ _ _ _ _ => n - (RowKit.intOf i).toNat)
    case atStart => exact ⟨0, Nat.zero_le _, rfl, ⟨rfl⟩, ⟨Drawn0.refl _⟩⟩
    case round =>
      obtain ⟨k, hk, rfl, T1, B1⟩ := hrel
      by_cases hlt : k < n
      · have g1 : decide ((k : Int) < (n : Int)) = true := decide_eq_true (by omega)
        have hx : k < xs.length := by rw [HX.out]; exact hlt
        have hy : k < ys.length := by rw [← HN.out]; exact hlt
        obtain ⟨a0, ea0, h0⟩ := str_cell D0.out k hx hx
        obtain ⟨a1, ea1, h1⟩ := str_cell D1.out k hy hy
        subst ea0
        subst ea1
        obtain ⟨nd, rfl⟩ := B1.out
        have p1 : ((k : Int) < (n : Int)) := by omega
        have TN : Aside0 (xs[k] = ys[k] → xs.take (k + 1) = ys.take (k + 1)) := ⟨fun e => take_eq T1.out hx hy e⟩
        have TX : Aside0 (xs[k] ≠ ys[k] → xs ≠ ys) := ⟨fun h e => h (by subst e; rfl)⟩
        generalize xs[k] = x at h0 TN TX
        generalize ys[k] = y at h1 TN TX
        by_cases hxy : x = y
        · have e1 : (x.toList == y.toList) = true := by rw [hxy]; simp
          have HE := Aside0.mk hxy
          clear hxy hx hy
          go_wp2
          go_quiet (fail)
          go_wp2
          exact ⟨⟨k + 1, by omega, by go_num, ⟨TN.out HE.out⟩, ⟨by repeat (first | exact Drawn0.refl _ | apply Drawn0.step | exact ⟨_, rfl⟩)⟩⟩, by simp [RowKit.intOf]; omega⟩
        · have e1 : (x.toList == y.toList) = false := beq_eq_false_iff_ne.2 (fun h => hxy (by rw [Lib.toList_data, Lib.toList_data] at h; exact Scn.ba_ext h))
          have HE := Aside0.mk hxy
          clear hxy hx hy
          go_wp2
          go_quiet (fail)
          go_wp2
          go_ret
          exact ⟨by rw [← HR.out, decide_eq_false (TX.out HE.out)]; rfl, by repeat (first | exact Drawn0.refl _ | apply Drawn0.step | exact ⟨_, rfl⟩)⟩
      · obtain rfl : k = n := by omega
        have g1 : decide ((k : Int) < (k : Int)) = false := decide_eq_false (by omega)
        have hT := T1.out
        rw [← HX.out, List.take_length, HX.out, HN.out, List.take_length] at hT
        have HT := Aside0.mk hT
        clear hT T1
        go_wp2
        go_ret
        exact ⟨by rw [← HR.out, decide_eq_true HT.out]; rfl, B1.out⟩
  · have e0 : (((xs.length : Nat) : Int) == ((ys.length : Nat) : Int)) = false := beq_eq_false_iff_ne.2 (by omega)
    rw [decide_eq_false (fun e : xs = ys => hn (by rw [e]))]
    generalize xs.length = n at e0 hn ⊢
    generalize ys.length = m at e0 hn ⊢
    go_enter Tryz.func61, Tryz.ntmps61
    go_wp2
    go_ret
    exact ⟨rfl, Drawn0.refl _⟩
set_option maxHeartbeats 4000000 in
set_option maxRecDepth 400000 in
theorem eq_bools (xs ys : List Bool) (A0 A1 : Option Addr) (c0 c1 : Nat) (w : World) (C0 : Kd.C Kd.bool w A0 xs.length xs) (C1 : Kd.C Kd.bool w A1 ys.length ys) (hl : xs.length ≤ 9223372036854775807) (hl1 : ys.length ≤ 9223372036854775807) :
    Calls Tryz.prog 63 #[.slice A0 xs.length c0, .slice A1 ys.length c1] w fun e w' => e = .returned (.bool (decide (xs = ys))) ∧ Drawn0 w w' := by
  have D0 := Aside0.mk C0
  have D1 := Aside0.mk C1
  clear C0 C1
  by_cases hn : xs.length = ys.length
  · have HN := Aside0.mk hn
    have e0 : (((xs.length : Nat) : Int) == ((xs.length : Nat) : Int)) = true := by simp
    rw [← hn]
    obtain ⟨r, hr⟩ : ∃ r, decide (xs = ys) = r := ⟨_, rfl⟩
    have HR := Aside0.mk hr
    rw [hr]
    clear hr hn hl1
    obtain ⟨n, hn⟩ : ∃ n, xs.length = n := ⟨_, rfl⟩
    have HX := Aside0.mk hn
    rw [hn] at HN e0 hl ⊢
    clear hn
    go_enter Tryz.func63, Tryz.ntmps63
    go_wp2
    go_loopw [5, 13, 14, 15, 16, 17, 18, 19, 20, 21, 22, 23, 24, 25] (fun _ i _ _ _ _ _ _ _ _ _ _ _ _ wr => ∃ k : Nat, k ≤ n ∧ i = .int .i64 k ∧ Aside0 (xs.take k = ys.take k) ∧ Aside0 (Drawn0 w wr)) (fun _ i _ _ _ _ _ _ _ _ _ _ _ _ _ => n - (RowKit.intOf i).toNat)
    case atStart => exact ⟨0, Nat.zero_le _, rfl, ⟨rfl⟩, ⟨Drawn0.refl _⟩⟩
    case round =>
      obtain ⟨k, hk, rfl, T1, B1⟩ := hrel
      by_cases hlt : k < n
      · have g1 : decide ((k : Int) < (n : Int)) = true := decide_eq_true (by omega)
        have hx : k < xs.length := by rw [HX.out]; exact hlt
        have hy : k < ys.length := by rw [← HN.out]; exact hlt
        obtain ⟨a0, ea0, h0⟩ := bool_cell D0.out k hx hx
        obtain ⟨a1, ea1, h1⟩ := bool_cell D1.out k hy hy
        subst ea0
        subst ea1
        obtain ⟨nd, rfl⟩ := B1.out
        have p1 : ((k : Int) < (n : Int)) := by omega
        have TN : Aside0 (xs[k] = ys[k] → xs.take (k + 1) = ys.take (k + 1)) := ⟨fun e => take_eq T1.out hx hy e⟩
        have TX : Aside0 (xs[k] ≠ ys[k] → xs ≠ ys) := ⟨fun h e => h (by subst e; rfl)⟩
        generalize xs[k] = x at h0 TN TX
        generalize ys[k] = y at h1 TN TX
        by_cases hxy : x = y
        · have e1 : (x == y) = true := beq_iff_eq.2 hxy
          have e2 : (x != y) = false := by rw [hxy]; simp
          have e3 : (x = y) = True := eq_true hxy
          have HE := Aside0.mk hxy
          clear hxy hx hy
          go_wp2
          go_quiet (fail)
          go_wp2
          exact ⟨⟨k + 1, by omega, by go_num, ⟨TN.out HE.out⟩, ⟨by repeat (first | exact Drawn0.refl _ | apply Drawn0.step | exact ⟨_, rfl⟩)⟩⟩, by simp [RowKit.intOf]; omega⟩
        · have e1 : (x == y) = false := beq_eq_false_iff_ne.2 hxy
          have e2 : (x != y) = true := bne_iff_ne.2 hxy
          have e3 : (x = y) = False := eq_false hxy
          have HE := Aside0.mk hxy
          clear hxy hx hy
          go_wp2
          go_quiet (fail)
          go_wp2
          go_ret
          exact ⟨by rw [← HR.out, decide_eq_false (TX.out HE.out)]; rfl, by repeat (first | exact Drawn0.refl _ | apply Drawn0.step | exact ⟨_, rfl⟩)⟩
      · obtain rfl : k = n := by omega
        have g1 : decide ((k : Int) < (k : Int)) = false := decide_eq_false (by omega)
        have hT := T1.out
        rw [← HX.out, List.take_length, HX.out, HN.out, List.take_length] at hT
        have HT := Aside0.mk hT
        clear hT T1
        go_wp2
        go_ret
        exact ⟨by rw [← HR.out, decide_eq_true HT.out]; rfl, B1.out⟩
  · have e0 : (((xs.length : Nat) : Int) == ((ys.length : Nat) : Int)) = false := beq_eq_false_iff_ne.2 (by omega)
    rw [decide_eq_false (fun e : xs = ys => hn (by rw [e]))]
    generalize xs.length = n at e0 hn ⊢
    generalize ys.length = m at e0 hn ⊢
    go_enter Tryz.func63, Tryz.ntmps63
    go_wp2
    go_ret
    exact ⟨rfl, Drawn0.refl _⟩
end Go.Proofs.Tok
namespace Go.Proofs.Tok
open Go.RowKit Go.Lib Go.Proofs.YtolfpgccebdlpaaGreatDoorW.PrintWords Go.Proofs.YtolfpgccebdlpaaGreatDoorW.PrintLast Go.Proofs.YtolfpgccebdlpaaGreatDoorW.PrintMore
set_option maxHeartbeats 4000000 in
set_option maxRecDepth 400000 in
theorem same1_any (x y : Smp) (A1 A2 B1 B2 : Option Addr) (c1 c2 d1 d2 : Nat) (w : World) (C1 : Kd.C Kd.string w A1 x.2.1.length x.2.1) (C2 : Kd.C Kd.string w A2 x.2.2.1.length x.2.2.1) (D1 : Kd.C Kd.string w B1 y.2.1.length y.2.1) (D2 : Kd.C Kd.string w B2 y.2.2.1.length y.2.2.1)
    (hl : x.2.1.length ≤ 1000000 ∧ x.2.2.1.length ≤ 1000000 ∧ y.2.1.length ≤ 1000000 ∧ y.2.2.1.length ≤ 1000000) :
    Calls Tryz.prog 60 #[.agg #[.string x.1, .slice A1 x.2.1.length c1, .slice A2 x.2.2.1.length c2, .bool x.2.2.2.1, .bool x.2.2.2.2], .agg #[.string y.1, .slice B1 y.2.1.length d1, .slice B2 y.2.2.1.length d2, .bool y.2.2.2.1, .bool y.2.2.2.2]] w fun e w' => e = .returned (.bool (decide (x = y))) ∧ Below w.heap.size w w' := by
  obtain ⟨t, l1, l2, b3, b4⟩ := x
  obtain ⟨t', l1', l2', b3', b4'⟩ := y
  simp only at C1 C2 D1 D2 hl
  have H1 := Aside0.mk (fun W (hW : Below w.heap.size w W) => eq_strs l1 l1' A1 B1 c1 d1 W (Kd.C_below C1 hW) (Kd.C_below D1 hW) (by omega) (by omega))
  have H2 := Aside0.mk (fun W (hW : Below w.heap.size w W) => eq_strs l2 l2' A2 B2 c2 d2 W (Kd.C_below C2 hW) (Kd.C_below D2 hW) (by omega) (by omega))
  clear C1 C2 D1 D2 hl
  have hu44 := Tryz.underlying80
  have HE : Aside0 (decide ((t, l1, l2, b3, b4) = ((t', l1', l2', b3', b4') : Smp)) = (decide (t = t') && (decide (l1 = l1') && (decide (l2 = l2') && (decide (b3 = b3') && decide (b4 = b4')))))) := ⟨by
    rw [Bool.eq_iff_iff]
    simp⟩
  obtain ⟨r, hr⟩ : ∃ r, decide ((t, l1, l2, b3, b4) = ((t', l1', l2', b3', b4') : Smp)) = r := ⟨_, rfl⟩
  rw [hr] at HE ⊢
  obtain ⟨r1, hr1⟩ : ∃ r1, decide (l1 = l1') = r1 := ⟨_, rfl⟩
  obtain ⟨r2, hr2⟩ : ∃ r2, decide (l2 = l2') = r2 := ⟨_, rfl⟩
  rw [hr1] at H1 HE
  rw [hr2] at H2 HE
  clear hr hr1 hr2
  generalize l1.length = n1 at H1 ⊢
  generalize l2.length = n2 at H2 ⊢
  generalize l1'.length = m1 at H1 ⊢
  generalize l2'.length = m2 at H2 ⊢
  have eb : ∀ b b' : Bool, (b == b') = decide (b = b') := by decide
  have HB4 : Aside0 (decide (b4 = b4') = (b4 == b4')) := ⟨(eb _ _).symm⟩
  by_cases ht : t = t'
  · have e0 : (t.toList == t'.toList) = true := by rw [ht]; simp
    have HT : Aside0 (decide (t = t') = true) := ⟨decide_eq_true ht⟩
    clear ht eb
    cases r1 with
    | true =>
      cases r2 with
      | true =>
        by_cases h3 : b3 = b3'
        · have e3 : (b3 == b3') = true := beq_iff_eq.2 h3
          have HB3 : Aside0 (decide (b3 = b3') = true) := ⟨decide_eq_true h3⟩
          clear h3
          as_aux_lemma =>
          go_enter Tryz.func60, Tryz.ntmps60
          go_wp2_with (first | (go_at_call 61; first | (with_reducible refine (H1.out _ (by repeat (first | exact Below.refl _ _ | apply below_alloc | apply below_drew1 | apply pw_below_drewN))).mono ?_; rintro e w' ⟨rfl, ⟨nd, rfl⟩⟩) | (with_reducible refine (H2.out _ (by repeat (first | exact Below.refl _ _ | apply below_alloc | apply below_drew1 | apply pw_below_drewN))).mono ?_; rintro e w' ⟨rfl, ⟨nd2, rfl⟩⟩)))
          go_ret
          exact ⟨by rw [HE.out, HT.out, HB3.out, HB4.out]; rfl, by repeat (first | exact Below.refl _ _ | apply below_alloc | apply below_drew1 | apply pw_below_drewN)⟩
        · have e3 : (b3 == b3') = false := beq_eq_false_iff_ne.2 h3
          have HB3 : Aside0 (decide (b3 = b3') = false) := ⟨decide_eq_false h3⟩
          clear h3
          as_aux_lemma =>
          go_enter Tryz.func60, Tryz.ntmps60
          go_wp2_with (first | (go_at_call 61; first | (with_reducible refine (H1.out _ (by repeat (first | exact Below.refl _ _ | apply below_alloc | apply below_drew1 | apply pw_below_drewN))).mono ?_; rintro e w' ⟨rfl, ⟨nd, rfl⟩⟩) | (with_reducible refine (H2.out _ (by repeat (first | exact Below.refl _ _ | apply below_alloc | apply below_drew1 | apply pw_below_drewN))).mono ?_; rintro e w' ⟨rfl, ⟨nd2, rfl⟩⟩)))
          go_ret
          exact ⟨by rw [HE.out, HT.out, HB3.out]; rfl, by repeat (first | exact Below.refl _ _ | apply below_alloc | apply below_drew1 | apply pw_below_drewN)⟩
      | false =>
        as_aux_lemma =>
        go_enter Tryz.func60, Tryz.ntmps60
        go_wp2_with (first | (go_at_call 61; first | (with_reducible refine (H1.out _ (by repeat (first | exact Below.refl _ _ | apply below_alloc | apply below_drew1 | apply pw_below_drewN))).mono ?_; rintro e w' ⟨rfl, ⟨nd, rfl⟩⟩) | (with_reducible refine (H2.out _ (by repeat (first | exact Below.refl _ _ | apply below_alloc | apply below_drew1 | apply pw_below_drewN))).mono ?_; rintro e w' ⟨rfl, ⟨nd2, rfl⟩⟩)))
        go_ret
        exact ⟨by rw [HE.out, HT.out]; rfl, by repeat (first | exact Below.refl _ _ | apply below_alloc | apply below_drew1 | apply pw_below_drewN)⟩
    | false =>
      as_aux_lemma =>
      go_enter Tryz.func60, Tryz.ntmps60
      go_wp2_with (first | (go_at_call 61; first | (with_reducible refine (H1.out _ (by repeat (first | exact Below.refl _ _ | apply below_alloc | apply below_drew1 | apply pw_below_drewN))).mono ?_; rintro e w' ⟨rfl, ⟨nd, rfl⟩⟩) | (with_reducible refine (H2.out _ (by repeat (first | exact Below.refl _ _ | apply below_alloc | apply below_drew1 | apply pw_below_drewN))).mono ?_; rintro e w' ⟨rfl, ⟨nd2, rfl⟩⟩)))
      go_ret
      exact ⟨by rw [HE.out, HT.out]; rfl, by repeat (first | exact Below.refl _ _ | apply below_alloc | apply below_drew1 | apply pw_below_drewN)⟩
  · have e0 : (t.toList == t'.toList) = false := beq_eq_false_iff_ne.2 (fun h => ht (by rw [Lib.toList_data, Lib.toList_data] at h; exact Scn.ba_ext h))
    have HT : Aside0 (decide (t = t') = false) := ⟨decide_eq_false ht⟩
    clear ht eb
    as_aux_lemma =>
    go_enter Tryz.func60, Tryz.ntmps60
    go_wp2_with (first | (go_at_call 61; first | (with_reducible refine (H1.out _ (by repeat (first | exact Below.refl _ _ | apply below_alloc | apply below_drew1 | apply pw_below_drewN))).mono ?_; rintro e w' ⟨rfl, ⟨nd, rfl⟩⟩) | (with_reducible refine (H2.out _ (by repeat (first | exact Below.refl _ _ | apply below_alloc | apply below_drew1 | apply pw_below_drewN))).mono ?_; rintro e w' ⟨rfl, ⟨nd2, rfl⟩⟩)))
    go_ret
    exact ⟨by rw [HE.out, HT.out]; rfl, by repeat (first | exact Below.refl _ _ | apply below_alloc | apply below_drew1 | apply pw_below_drewN)⟩
end Go.Proofs.Tok
namespace Go.Proofs.Tok
open Go.RowKit Go.Lib Go.Proofs.YtolfpgccebdlpaaGreatDoorW.PrintWords Go.Proofs.YtolfpgccebdlpaaGreatDoorW.PrintLast Go.Proofs.YtolfpgccebdlpaaGreatDoorW.PrintMore
theorem two_below {w wr w2 : World} {o p : Obj} (h : Below w.heap.size w wr) (hb : Below ((wr.alloc o).alloc p).heap.size ((wr.alloc o).alloc p) w2) : Below w.heap.size w w2 := by
  have hs := h.size
  refine below_then (below_alloc (below_alloc h _) _) ?_ hb
  rw [alloc_size, alloc_size]
  omega
def lenX (x : Smp) : Prop := x.2.1.length ≤ 1000000 ∧ x.2.2.1.length ≤ 1000000
set_option maxHeartbeats 1000000 in
set_option maxRecDepth 400000 in
theorem eq_smps (xs ys : List Smp) (A0 A1 : Option Addr) (c0 c1 : Nat) (w : World) (C0 : Kd.C kSmp w A0 xs.length xs) (C1 : Kd.C kSmp w A1 ys.length ys) (hl : xs.length ≤ 1000000) (hl1 : ys.length ≤ 1000000) (hx : ∀ x ∈ xs, lenX x) (hy : ∀ y ∈ ys, lenX y) :
    Calls Tryz.prog 62 #[.slice A0 xs.length c0, .slice A1 ys.length c1, .func (.func 60) #[] #[]] w fun e w' => e = .returned (.bool (decide (xs = ys))) ∧ Below w.heap.size w w' := by
  have D0 := Aside0.mk C0
  have D1 := Aside0.mk C1
  have L0 := Aside0.mk hx
  have L1 := Aside0.mk hy
  clear C0 C1 hx hy
  have hu44 := Tryz.underlying80
  by_cases hn : xs.length = ys.length
  · have HN := Aside0.mk hn
    have e0 : (((xs.length : Nat) : Int) == ((xs.length : Nat) : Int)) = true := by simp
    rw [← hn]
    obtain ⟨r, hr⟩ : ∃ r, decide (xs = ys) = r := ⟨_, rfl⟩
    have HR := Aside0.mk hr
    rw [hr]
    clear hr hn hl1
    obtain ⟨n, hn⟩ : ∃ n, xs.length = n := ⟨_, rfl⟩
    have HX := Aside0.mk hn
    rw [hn] at HN e0 hl ⊢
    clear hn
    go_enter Tryz.func62, Tryz.ntmps62
    go_wp2
    go_loopw [7, 8, 9, 17, 18, 19, 20, 21, 22, 23, 24, 25, 26, 27, 28, 29, 30, 31] (fun _ _ _ i _ _ _ _ _ _ _ _ _ _ _ _ _ _ wr => ∃ k : Nat, k ≤ n ∧ i = .int .i64 k ∧ Aside0 (xs.take k = ys.take k) ∧ Aside0 (Below w.heap.size w wr)) (fun _ _ _ i _ _ _ _ _ _ _ _ _ _ _ _ _ _ _ => n - (RowKit.intOf i).toNat)
    case atStart => exact ⟨0, Nat.zero_le _, rfl, ⟨rfl⟩, ⟨Below.refl _ _⟩⟩
    case round =>
      obtain ⟨k, hk, rfl, T1, B1⟩ := hrel
      by_cases hlt : k < n
      · have g1 : decide ((k : Int) < (n : Int)) = true := decide_eq_true (by omega)
        have hx : k < xs.length := by rw [HX.out]; exact hlt
        have hy : k < ys.length := by rw [← HN.out]; exact hlt
        obtain ⟨a0, U1, u1, U2, u2, ea0, h0, h1, h2, h3, h4, q1, F1, q2, F2⟩ := at_Smp D0.out k hx hx
        obtain ⟨a1, V1, v1, V2, v2, ea1, m0, m1, m2, m3, m4, q3, F3, q4, F4⟩ := at_Smp D1.out k hy hy
        subst ea0
        subst ea1
        have hB := fun (p : Addr) (v : Value) (h : w.cell? p = some v) => (B1.out.cell (World.block_lt_of_cell? _ _ h)).trans h
        have x0 := hB _ _ h0
        have x1 := hB _ _ h1
        have x2 := hB _ _ h2
        have x3 := hB _ _ h3
        have x4 := hB _ _ h4
        have y0 := hB _ _ m0
        have y1 := hB _ _ m1
        have y2 := hB _ _ m2
        have y3 := hB _ _ m3
        have y4 := hB _ _ m4
        have HS := Aside0.mk (fun W (hW : Below w.heap.size w W) => same1_any xs[k] ys[k] U1 U2 V1 V2 u1 u2 v1 v2 W (Kd.C_below F1 hW) (Kd.C_below F2 hW) (Kd.C_below F3 hW) (Kd.C_below F4 hW) ⟨(L0.out _ (List.getElem_mem hx)).1, (L0.out _ (List.getElem_mem hx)).2, (L1.out _ (List.getElem_mem hy)).1, (L1.out _ (List.getElem_mem hy)).2⟩)
        have TN : Aside0 (xs[k] = ys[k] → xs.take (k + 1) = ys.take (k + 1)) := ⟨fun e => take_eq T1.out hx hy e⟩
        have TX : Aside0 (xs[k] ≠ ys[k] → xs ≠ ys) := ⟨fun h e => h (by subst e; rfl)⟩
        clear h0 h1 h2 h3 h4 m0 m1 m2 m3 m4 q1 q2 q3 q4 F1 F2 F3 F4 hB
        generalize xs[k] = x at x0 x1 x2 x3 x4 HS TN TX
        generalize ys[k] = y at y0 y1 y2 y3 y4 HS TN TX
        clear hx hy
        have al := fun (p : Addr) (v : Value) (h : wr.cell? p = some v) => (World.cell?_alloc_lt wr (Obj.cells #[.string x.1, .slice U1 x.2.1.length u1, .slice U2 x.2.2.1.length u2, .bool x.2.2.2.1, .bool x.2.2.2.2] 80) p (World.block_lt_of_cell? _ _ h)).trans h
        have z0 := al _ _ y0
        have z1 := al _ _ y1
        have z2 := al _ _ y2
        have z3 := al _ _ y3
        have z4 := al _ _ y4
        clear al
        obtain ⟨b, hb⟩ : ∃ b, decide (x = y) = b := ⟨_, rfl⟩
        have HE := Aside0.mk hb
        rw [hb] at HS
        clear hb
        cases b with
        | true =>
          go_wp2_with (first | (go_at_call 60; with_reducible refine (HS.out _ (by repeat (first | exact B1.out | apply below_alloc))).mono ?_; rintro e w' ⟨rfl, hB⟩; have HBB := Aside0.mk (two_below B1.out hB); clear hB))
          exact ⟨⟨k + 1, by omega, by go_num, ⟨TN.out (of_decide_eq_true HE.out)⟩, HBB⟩, by simp [RowKit.intOf]; omega⟩
        | false =>
          go_wp2_with (first | (go_at_call 60; with_reducible refine (HS.out _ (by repeat (first | exact B1.out | apply below_alloc))).mono ?_; rintro e w' ⟨rfl, hB⟩; have HBB := Aside0.mk (two_below B1.out hB); clear hB))
          go_ret
          exact ⟨by rw [← HR.out, decide_eq_false (TX.out (of_decide_eq_false HE.out))]; rfl, HBB.out⟩
      · obtain rfl : k = n := by omega
        have g1 : decide ((k : Int) < (k : Int)) = false := decide_eq_false (by omega)
        have hT := T1.out
        rw [← HX.out, List.take_length, HX.out, HN.out, List.take_length] at hT
        have HT := Aside0.mk hT
        clear hT T1
        go_wp2
        go_ret
        exact ⟨by rw [← HR.out, decide_eq_true HT.out]; rfl, B1.out⟩
  · have e0 : (((xs.length : Nat) : Int) == ((ys.length : Nat) : Int)) = false := beq_eq_false_iff_ne.2 (by omega)
    rw [decide_eq_false (fun e : xs = ys => hn (by rw [e]))]
    generalize xs.length = n at e0 hn ⊢
    generalize ys.length = m at e0 hn ⊢
    go_enter Tryz.func62, Tryz.ntmps62
    go_wp2
    go_ret
    exact ⟨rfl, Below.refl _ _⟩
set_option maxHeartbeats 1000000 in
set_option maxRecDepth 400000 in
theorem Same_any (xs ys : List Smp) (bs cs : List Bool) (A0 A1 E0 E1 : Option Addr) (c0 c1 d0 d1 : Nat) (w : World) (C0 : Kd.C kSmp w A0 xs.length xs) (C1 : Kd.C kSmp w A1 ys.length ys) (D0 : Kd.C Kd.bool w E0 bs.length bs) (D1 : Kd.C Kd.bool w E1 cs.length cs) (hl : xs.length ≤ 1000000) (hl1 : ys.length ≤ 1000000) (hb : bs.length ≤ 1000000) (hc : cs.length ≤ 1000000) (hx : ∀ x ∈ xs, lenX x) (hy : ∀ y ∈ ys, lenX y) :
    Calls Tryz.prog 23 #[.agg #[.slice A0 xs.length c0, .slice E0 bs.length d0], .agg #[.slice A1 ys.length c1, .slice E1 cs.length d1]] w fun e w' => e = .returned (.bool (decide (xs = ys) && decide (bs = cs))) ∧ Below w.heap.size w w' := by
  have HS := Aside0.mk (fun W (hW : Below w.heap.size w W) => eq_smps xs ys A0 A1 c0 c1 W (Kd.C_below C0 hW) (Kd.C_below C1 hW) hl hl1 hx hy)
  have HB := Aside0.mk (fun W (hW : Below w.heap.size w W) => eq_bools bs cs E0 E1 d0 d1 W (Kd.C_below D0 hW) (Kd.C_below D1 hW) (by omega) (by omega))
  clear C0 C1 D0 D1 hx hy
  have hu25 := Tryz.underlying25
  obtain ⟨r1, hr1⟩ : ∃ r1, decide (xs = ys) = r1 := ⟨_, rfl⟩
  obtain ⟨r2, hr2⟩ : ∃ r2, decide (bs = cs) = r2 := ⟨_, rfl⟩
  rw [hr1] at HS ⊢
  rw [hr2] at HB ⊢
  clear hr1 hr2 hl hl1 hb hc
  generalize xs.length = n1 at HS ⊢
  generalize ys.length = n2 at HS ⊢
  generalize bs.length = m1 at HB ⊢
  generalize cs.length = m2 at HB ⊢
  have k0 := fun (j : Nat) (v : Value) (W : World) (h : (#[.slice A0 n1 c0, .slice E0 m1 d0] : Array Value)[j]? = some v) (hb : Below ((w.alloc (.cells #[.slice A0 n1 c0, .slice E0 m1 d0] 25)).alloc (.cells #[.slice A1 n2 c1, .slice E1 m2 d1] 25)).heap.size ((w.alloc (.cells #[.slice A0 n1 c0, .slice E0 m1 d0] 25)).alloc (.cells #[.slice A1 n2 c1, .slice E1 m2 d1] 25)) W) => (hb.cell (p := ⟨w.heap.size, j, none⟩) (by rw [alloc_size, alloc_size]; show w.heap.size < _; omega)).trans ((World.cell?_alloc2_first _ _ _ _).trans h)
  have k1 := fun (j : Nat) (v : Value) (W : World) (h : (#[.slice A1 n2 c1, .slice E1 m2 d1] : Array Value)[j]? = some v) (hb : Below ((w.alloc (.cells #[.slice A0 n1 c0, .slice E0 m1 d0] 25)).alloc (.cells #[.slice A1 n2 c1, .slice E1 m2 d1] 25)).heap.size ((w.alloc (.cells #[.slice A0 n1 c0, .slice E0 m1 d0] 25)).alloc (.cells #[.slice A1 n2 c1, .slice E1 m2 d1] 25)) W) => (hb.cell (p := ⟨w.heap.size + 1, j, none⟩) (by rw [alloc_size, alloc_size]; show w.heap.size + 1 < _; omega)).trans ((World.cell?_alloc2_new _ _ _ _).trans h)
  have K0 := Aside0.mk k0
  have K1 := Aside0.mk k1
  clear k0 k1
  cases r1 with
  | false =>
    go_enter Tryz.func23, Tryz.ntmps23
    go_wp2_with (first | (go_at_call 62; with_reducible refine (HS.out _ (by repeat (first | exact Below.refl _ _ | apply below_alloc | apply below_drew1 | apply pw_below_drewN))).mono ?_; rintro e w' ⟨rfl, hB⟩; have HBB := Aside0.mk (two_below (Below.refl _ _) hB); clear hB))
    go_ret
    exact ⟨rfl, HBB.out⟩
  | true =>
    go_enter Tryz.func23, Tryz.ntmps23
    go_wp2_with (first | (go_at_call 62; with_reducible refine (HS.out _ (by repeat (first | exact Below.refl _ _ | apply below_alloc | apply below_drew1 | apply pw_below_drewN))).mono ?_; rintro e w' ⟨rfl, hB⟩; have q0 := K0.out 1 (.slice E0 m1 d0) _ rfl hB; have q1 := K1.out 1 (.slice E1 m2 d1) _ rfl hB; have HBB := Aside0.mk (two_below (Below.refl _ _) hB); clear hB) | (go_at_call 63; with_reducible refine (HB.out _ (by repeat (first | exact HBB.out | apply below_drew1 | apply pw_below_drewN))).mono ?_; rintro e w2 ⟨rfl, ⟨nd, rfl⟩⟩))
    go_ret
    exact ⟨rfl, by repeat (first | exact HBB.out | apply below_drew1 | apply pw_below_drewN)⟩
end Go.Proofs.Tok
set_option linter.unusedVariables false
set_option linter.unusedSimpArgs false
namespace Go.Proofs.Sht
open Go.RowKit Go.Lib Go.Proofs.YtolfpgccebdlpaaGreatDoorW.PrintWords Go.Proofs.YtolfpgccebdlpaaGreatDoorW.PrintLast Go.Proofs.YtolfpgccebdlpaaGreatDoorW.PrintMore Go.Proofs.Tok
/-- what texts weigh -/
def addS (l : List ByteArray) : Nat := (l.map fun s => 1 + s.size).sum
def wP (p : Smp) : Nat := 1 + p.1.size + addS p.2.1 + addS p.2.2.1
def wS (l : List Smp) : Nat := (l.map wP).sum
def smT (l : List ByteArray) : Prop := ∀ s ∈ l, s.size ≤ 140737488355328
def smP (p : Smp) : Prop := p.1.size ≤ 140737488355328 ∧ (p.2.1.length ≤ 140737488355328 ∧ smT p.2.1) ∧ p.2.2.1.length ≤ 140737488355328 ∧ smT p.2.2.1
theorem sum_take {α : Type} (f : α → Nat) {l : List α} {k : Nat} (h : k < l.length) : ((l.take (k + 1)).map f).sum = ((l.take k).map f).sum + f l[k] := by
  rw [List.take_succ_eq_append_getElem h, List.map_append, List.sum_append]
  simp
set_option maxHeartbeats 8000000 in
set_option maxRecDepth 400000 in
theorem LargeS (xs : List Smp) (bs : List Bool) (A1 : Option Addr) (c1 : Nat) (A2 : Option Addr) (c2 : Nat) (w : World) (C1 : Kd.C kSmp w A1 xs.length xs) (hl : xs.length ≤ 140737488355328) (hb : bs.length ≤ 140737488355328) (hs : ∀ p ∈ xs, smP p) :
    Calls Tryz.prog 10 #[.agg #[.slice A1 xs.length c1, .slice A2 bs.length c2]] w fun e w' => ∃ b, e = .returned (.bool b) ∧ (b = false → wS xs ≤ 500 ∧ bs.length ≤ 100) ∧ Below w.heap.size w w' := by
  have D0 := Aside0.mk C1
  have HS := Aside0.mk hs
  clear C1 hs
  have hu := Tryz.underlying30
  have hu2 := Tryz.underlying79
  go_enter Tryz.func10, Tryz.ntmps10
  go_wp2
  go_loopw [3, 4, 5, 6, 7, 8, 9, 10, 11, 12, 13, 14, 15, 16, 17, 18, 19, 20, 21, 22, 23, 24, 25, 26, 27, 28, 29, 30, 31, 32, 33, 34, 35, 36, 37, 38, 39, 40, 41, 42, 43, 44, 45, 46, 47, 48, 49, 50, 51, 52, 53, 54, 55, 56, 57, 58, 59, 60, 61, 62, 63, 64, 65, 66, 67, 68, 69, 70, 71, 72, 73, 74, 75, 76, 77, 78, 79, 80, 81, 82, 83] (fun n i _ _ _ _ _ _ _ _ _ _ _ _ _ _ _ _ _ _ _ _ _ _ _ _ _ _ _ _ _ _ _ _ _ _ _ _ _ _ _ _ _ _ _ _ _ _ _ _ _ _ _ _ _ _ _ _ _ _ _ _ _ _ _ _ _ _ _ _ _ _ _ _ _ _ _ _ _ _ _ wr => ∃ k m : Nat, k ≤ xs.length ∧ i = .int .i64 k ∧ n = .int .i64 m ∧ m ≤ 281474976710656 ∧ Aside0 (m ≤ 500 → m = wS (xs.take k)) ∧ Aside0 (Drawn0 (w.alloc (.cells #[.slice A1 xs.length c1, .slice A2 bs.length c2] 30)) wr)) (fun _ i _ _ _ _ _ _ _ _ _ _ _ _ _ _ _ _ _ _ _ _ _ _ _ _ _ _ _ _ _ _ _ _ _ _ _ _ _ _ _ _ _ _ _ _ _ _ _ _ _ _ _ _ _ _ _ _ _ _ _ _ _ _ _ _ _ _ _ _ _ _ _ _ _ _ _ _ _ _ _ _ => xs.length - (RowKit.intOf i).toNat)
  case atStart => exact ⟨0, 0, Nat.zero_le _, rfl, rfl, by omega, ⟨fun _ => rfl⟩, ⟨Drawn0.refl _⟩⟩
  case round =>
    obtain ⟨k, m, hk, rfl, rfl, hm, N1, B1⟩ := hrel
    obtain ⟨nd, rfl⟩ := B1.out
    by_cases hc : k < xs.length ∧ m ≤ 500
    · have hlt := hc.1
      have h5 := hc.2
      have g1 : decide ((k : Int) < (xs.length : Int)) = true := decide_eq_true (by omega)
      have g2 : decide ((m : Int) ≤ 500) = true := decide_eq_true (by omega)
      have N2 := Aside0.mk (N1.out hc.2)
      obtain ⟨ad, E1, e1, E2, e2, ea, h0, h1, h2, h3, h4, q1, K1, q2, K2⟩ := at_Smp D0.out k hlt hlt
      subst ea
      have KB : Aside0 (∀ (p : Addr) (v : Value), w.cell? p = some v → (w.alloc (.cells #[.slice (some ad) xs.length c1, .slice A2 bs.length c2] 30)).cell? p = some v) := ⟨fun p v h => ((below_alloc (Below.refl w.heap.size w) _).cell (World.block_lt_of_cell? _ _ h)).trans h⟩
      have F := HS.out _ (List.getElem_mem hlt)
      have T1 : Aside0 (wS (xs.take (k + 1)) = wS (xs.take k) + wP xs[k]) := ⟨sum_take wP hlt⟩
      have T2 : Aside0 (wP xs[k] = 1 + xs[k].1.size + addS xs[k].2.1 + addS xs[k].2.2.1) := ⟨rfl⟩
      generalize xs[k] = x at h0 h1 h2 K1 K2 F T1 T2
      obtain ⟨tg, ids, cls, x3, x4⟩ := x
      dsimp only at h0 h1 h2 K1 K2 T2
      obtain ⟨F0, ⟨F1, F2⟩, F3, F4⟩ := F
      dsimp only at F0 F1 F2 F3 F4
      have I1 := Aside0.mk K1
      have I2 := Aside0.mk K2
      have S1 := Aside0.mk F2
      have S2 := Aside0.mk F4
      have y0 := KB.out _ _ h0
      have y1 := KB.out _ _ h1
      have y2 := KB.out _ _ h2
      clear K1 K2 F2 F4 h0 h1 h2 h3 h4 q1 q2 N1 hc
      as_aux_lemma =>
        go_wp2
        go_loopw [3, 5, 28, 29, 30, 31, 32, 33, 34, 35, 36, 37, 38, 39, 40, 41, 42, 43, 44, 45, 46, 47, 48, 49, 50, 51, 52, 53, 54, 55] (fun n jv _ _ _ _ _ _ _ _ _ _ _ _ _ _ _ _ _ _ _ _ _ _ _ _ _ _ _ _ wr => ∃ j m : Nat, j ≤ ids.length ∧ jv = .int .i64 j ∧ n = .int .i64 m ∧ m ≤ 281474976710656 ∧ Aside0 (m ≤ 500 → m = wS (xs.take k) + 1 + tg.size + addS (ids.take j)) ∧ Aside0 (Drawn0 (w.alloc (.cells #[.slice (some ad) xs.length c1, .slice A2 bs.length c2] 30)) wr)) (fun _ jv _ _ _ _ _ _ _ _ _ _ _ _ _ _ _ _ _ _ _ _ _ _ _ _ _ _ _ _ _ => ids.length - (RowKit.intOf jv).toNat)
        case atStart => exact ⟨0, m + 1 + tg.size, Nat.zero_le _, rfl, by go_num, by omega, ⟨fun _ => by have := N2.out; rw [this]; simp [addS]⟩, ⟨by repeat (first | exact Drawn0.refl _ | apply Drawn0.step | exact ⟨_, rfl⟩)⟩⟩
        case round =>
          obtain ⟨j, m, hj, rfl, rfl, hm, N3, B3⟩ := hrel
          obtain ⟨nd, rfl⟩ := B3.out
          by_cases hc : j < ids.length ∧ m ≤ 500
          · have hjl := hc.1
            have h5 := hc.2
            have g3 : decide ((j : Int) < (ids.length : Int)) = true := decide_eq_true (by omega)
            have g4 : decide ((m : Int) ≤ 500) = true := decide_eq_true (by omega)
            have N4 := Aside0.mk (N3.out hc.2)
            obtain ⟨ax, ex, z0⟩ := str_cell I1.out j hjl hjl
            subst ex
            have T3 : Aside0 (addS (ids.take (j + 1)) = addS (ids.take j) + (1 + ids[j].size)) := ⟨sum_take (fun s : ByteArray => 1 + s.size) hjl⟩
            have zs := S1.out _ (List.getElem_mem hjl)
            generalize ids[j] = t at z0 T3 zs
            have y0 := KB.out _ _ z0
            clear z0
            go_wp2
            exact ⟨⟨j + 1, m + 1 + t.size, by omega, by go_num, by go_num, by omega, ⟨fun h => by rw [T3.out]; have := N4.out; omega⟩, ⟨by repeat (first | exact Drawn0.refl _ | apply Drawn0.step | exact ⟨_, rfl⟩)⟩⟩, by simp [RowKit.intOf]; omega⟩
          · have hex : (decide ((j : Int) < (ids.length : Int)) = false ∧ decide (j < ids.length) = false) ∨ (decide ((j : Int) < (ids.length : Int)) = true ∧ decide (j < ids.length) = true ∧ decide ((m : Int) ≤ 500) = false ∧ decide (m ≤ 500) = false) := by
              by_cases h : j < ids.length
              · exact .inr ⟨decide_eq_true (by omega), decide_eq_true (by omega), decide_eq_false (by omega), decide_eq_false (by omega)⟩
              · exact .inl ⟨decide_eq_false (by omega), decide_eq_false (by omega)⟩
            have NF : Aside0 (m ≤ 500 → m = wS (xs.take k) + 1 + tg.size + addS ids) := ⟨fun h => by
              have h1 := N3.out h
              rwa [show j = ids.length by omega, List.take_length] at h1⟩
            clear N3 hc
            rcases hex with ⟨g7, g7n⟩ | ⟨g7, g7n, g8, g8n⟩
            all_goals
              as_aux_lemma =>
                go_wp2
                have NF0 := NF
                clear NF
                go_loopw [3, 6, 56, 57, 58, 59, 60, 61, 62, 63, 64, 65, 66, 67, 68, 69, 70, 71, 72, 73, 74, 75, 76, 77, 78, 79, 80, 81, 82, 83] (fun n jv _ _ _ _ _ _ _ _ _ _ _ _ _ _ _ _ _ _ _ _ _ _ _ _ _ _ _ _ wr => ∃ j m : Nat, j ≤ cls.length ∧ jv = .int .i64 j ∧ n = .int .i64 m ∧ m ≤ 281474976710656 ∧ Aside0 (m ≤ 500 → m = wS (xs.take k) + 1 + tg.size + addS ids + addS (cls.take j)) ∧ Aside0 (Drawn0 (w.alloc (.cells #[.slice (some ad) xs.length c1, .slice A2 bs.length c2] 30)) wr)) (fun _ jv _ _ _ _ _ _ _ _ _ _ _ _ _ _ _ _ _ _ _ _ _ _ _ _ _ _ _ _ _ => cls.length - (RowKit.intOf jv).toNat)
                case atStart => exact ⟨0, m, Nat.zero_le _, rfl, rfl, hm, ⟨fun h => by rw [NF0.out h]; rfl⟩, ⟨by repeat (first | exact Drawn0.refl _ | apply Drawn0.step | exact ⟨_, rfl⟩)⟩⟩
                case round =>
                  obtain ⟨j, m, hj, rfl, rfl, hm, N3, B3⟩ := hrel
                  obtain ⟨nd, rfl⟩ := B3.out
                  by_cases hc : j < cls.length ∧ m ≤ 500
                  · have hjl := hc.1
                    have h5 := hc.2
                    have g3 : decide ((j : Int) < (cls.length : Int)) = true := decide_eq_true (by omega)
                    have g4 : decide ((m : Int) ≤ 500) = true := decide_eq_true (by omega)
                    have N4 := Aside0.mk (N3.out hc.2)
                    obtain ⟨ax, ex, z0⟩ := str_cell I2.out j hjl hjl
                    subst ex
                    have T3 : Aside0 (addS (cls.take (j + 1)) = addS (cls.take j) + (1 + cls[j].size)) := ⟨sum_take (fun s : ByteArray => 1 + s.size) hjl⟩
                    have zs := S2.out _ (List.getElem_mem hjl)
                    generalize cls[j] = t at z0 T3 zs
                    have y0 := KB.out _ _ z0
                    clear z0
                    go_wp2
                    exact ⟨⟨j + 1, m + 1 + t.size, by omega, by go_num, by go_num, by omega, ⟨fun h => by rw [T3.out]; have := N4.out; omega⟩, ⟨by repeat (first | exact Drawn0.refl _ | apply Drawn0.step | exact ⟨_, rfl⟩)⟩⟩, by simp [RowKit.intOf]; omega⟩
                  · have hex : (decide ((j : Int) < (cls.length : Int)) = false ∧ decide (j < cls.length) = false) ∨ (decide ((j : Int) < (cls.length : Int)) = true ∧ decide (j < cls.length) = true ∧ decide ((m : Int) ≤ 500) = false ∧ decide (m ≤ 500) = false) := by
                      by_cases h : j < cls.length
                      · exact .inr ⟨decide_eq_true (by omega), decide_eq_true (by omega), decide_eq_false (by omega), decide_eq_false (by omega)⟩
                      · exact .inl ⟨decide_eq_false (by omega), decide_eq_false (by omega)⟩
                    have NF : Aside0 (m ≤ 500 → m = wS (xs.take k) + 1 + tg.size + addS ids + addS cls) := ⟨fun h => by
                      have h1 := N3.out h
                      rwa [show j = cls.length by omega, List.take_length] at h1⟩
                    clear N3 hc
                    rcases hex with ⟨g5, g5n⟩ | ⟨g5, g5n, g6, g6n⟩
                    all_goals
                      as_aux_lemma =>
                        go_wp2
                        exact ⟨⟨k + 1, m, by omega, by go_num, rfl, hm, ⟨fun h => by rw [T1.out, T2.out]; have := NF.out h; have := N2.out; omega⟩, ⟨by repeat (first | exact Drawn0.refl _ | apply Drawn0.step | exact ⟨_, rfl⟩)⟩⟩, by simp [RowKit.intOf]; omega⟩
    · have hex : (decide ((k : Int) < (xs.length : Int)) = false ∧ decide (k < xs.length) = false) ∨ (decide ((k : Int) < (xs.length : Int)) = true ∧ decide (k < xs.length) = true ∧ decide ((m : Int) ≤ 500) = false ∧ decide (m ≤ 500) = false) := by
        by_cases h : k < xs.length
        · exact .inr ⟨decide_eq_true (by omega), decide_eq_true (by omega), decide_eq_false (by omega), decide_eq_false (by omega)⟩
        · exact .inl ⟨decide_eq_false (by omega), decide_eq_false (by omega)⟩
      have NF : Aside0 (m ≤ 500 → wS xs ≤ 500) := ⟨fun h => by
        have h1 := N1.out h
        rw [show k = xs.length by omega, List.take_length] at h1
        omega⟩
      have BE : Aside0 (Below w.heap.size w ((w.alloc (.cells #[.slice A1 xs.length c1, .slice A2 bs.length c2] 30)).drewN nd)) := ⟨pw_below_drewN (below_alloc (Below.refl _ _) _) nd⟩
      clear N1 hc
      rcases hex with ⟨g1, n1⟩ | ⟨g1, n1, g2, n2⟩
      all_goals
        by_cases h5 : m ≤ 500
        · have g5 : decide ((500 : Int) < (m : Int)) = false := decide_eq_false (by omega)
          by_cases h1 : bs.length ≤ 100
          · have g6 : decide ((100 : Int) < (bs.length : Int)) = false := decide_eq_false (by omega)
            as_aux_lemma =>
              go_wp2
              go_ret
              exact ⟨_, rfl, fun _ => ⟨NF.out h5, h1⟩, BE.out⟩
          · have g6 : decide ((100 : Int) < (bs.length : Int)) = true := decide_eq_true (by omega)
            as_aux_lemma =>
              go_wp2
              go_ret
              exact ⟨_, rfl, (fun h => by cases h), BE.out⟩
        · have g5 : decide ((500 : Int) < (m : Int)) = true := decide_eq_true (by omega)
          as_aux_lemma =>
            go_wp2
            go_ret
            exact ⟨_, rfl, (fun h => by cases h), BE.out⟩
/-- a selector that is not large -/
def okSel (s : Sel) : Prop := wS s.1 ≤ 500 ∧ s.2.length ≤ 100
def wR (l : List Rl) : Nat := (l.map fun r => 1 + r.2.length + r.1.length).sum
/-- rules that are not large -/
def sizR (l : List Rl) : Prop := l.length ≤ 100 ∧ wR l ≤ 1000 ∧ ∀ r ∈ l, ∀ s ∈ r.1, okSel s
def smS (s : Sel) : Prop := s.1.length ≤ 140737488355328 ∧ s.2.length ≤ 140737488355328 ∧ ∀ p ∈ s.1, smP p
def smR (r : Rl) : Prop := r.1.length ≤ 140737488355328 ∧ r.2.length ≤ 140737488355328 ∧ ∀ s ∈ r.1, smS s
theorem all_next {α : Type} {P : α → Prop} {l : List α} {k : Nat} (h : k < l.length) (h1 : ∀ x ∈ l.take k, P x) (h2 : P l[k]) : ∀ x ∈ l.take (k + 1), P x := by
  rw [List.take_succ_eq_append_getElem h]
  intro x hx
  rcases List.mem_append.1 hx with hx | hx
  · exact h1 x hx
  · rw [List.mem_singleton] at hx
    rw [hx]
    exact h2
set_option maxHeartbeats 8000000 in
set_option maxRecDepth 400000 in
theorem LargeC (xs : List Rl) (A : Option Addr) (c : Nat) (w : World) (C : Kd.C kRl w A xs.length xs) (hl : xs.length ≤ 201) (hs : ∀ r ∈ xs, smR r) :
    Calls Tryz.prog 25 #[.slice A xs.length c] w fun e w' => ∃ b, e = .returned (.bool b) ∧ (b = false → sizR xs) ∧ Below w.heap.size w w' := by
  have D0 := Aside0.mk C
  have HS := Aside0.mk hs
  clear C hs
  have hu := Tryz.underlying113
  have hu2 := Tryz.underlying30
  go_enter Tryz.func25, Tryz.ntmps25
  go_wp2
  go_loopw [3, 4, 5, 6, 7, 8, 9, 10, 11, 12, 13, 14, 15, 16, 17, 18, 19, 20, 21, 22, 23, 24, 25, 26, 27, 28, 29, 30, 31, 32, 33, 34, 35, 36, 37, 38, 39, 40, 41, 42, 43, 44, 45, 46, 47, 48, 49] (fun n i _ _ _ _ _ _ _ _ _ _ _ _ _ _ _ _ _ _ _ _ _ _ _ _ _ _ _ _ _ _ _ _ _ _ _ _ _ _ _ _ _ _ _ _ _ wr => ∃ k m : Nat, k ≤ xs.length ∧ i = .int .i64 k ∧ n = .int .i64 m ∧ m ≤ 281474976710656 ∧ Aside0 (m ≤ 1000 → m = wR (xs.take k) ∧ ∀ r ∈ xs.take k, ∀ s ∈ r.1, okSel s) ∧ Aside0 (Below w.heap.size w wr)) (fun _ i _ _ _ _ _ _ _ _ _ _ _ _ _ _ _ _ _ _ _ _ _ _ _ _ _ _ _ _ _ _ _ _ _ _ _ _ _ _ _ _ _ _ _ _ _ _ => xs.length - (RowKit.intOf i).toNat)
  case atStart => exact ⟨0, 0, Nat.zero_le _, rfl, rfl, by omega, ⟨fun _ => ⟨rfl, fun r hr => by simp at hr⟩⟩, ⟨Below.refl _ _⟩⟩
  case round =>
    obtain ⟨k, m, hk, rfl, rfl, hm, N1, B1⟩ := hrel
    by_cases hc : k < xs.length ∧ m ≤ 1000
    · have hlt := hc.1
      have h5 := hc.2
      have g1 : decide ((k : Int) < (xs.length : Int)) = true := decide_eq_true (by omega)
      have g2 : decide ((m : Int) ≤ 1000) = true := decide_eq_true (by omega)
      have N2 := Aside0.mk (N1.out hc.2)
      obtain ⟨ad, E1, e1, E2, e2, ea, h0, h1, q1, K1, q2, K2⟩ := at_two D0.out k hlt hlt
      subst ea
      have F := HS.out _ (List.getElem_mem hlt)
      have T1 : Aside0 (wR (xs.take (k + 1)) = wR (xs.take k) + (1 + xs[k].2.length + xs[k].1.length)) := ⟨sum_take (fun r : Rl => 1 + r.2.length + r.1.length) hlt⟩
      have T2 : Aside0 ((∀ s ∈ xs[k].1, okSel s) → ∀ r ∈ xs.take (k + 1), ∀ s ∈ r.1, okSel s) := ⟨fun h => all_next hlt N2.out.2 h⟩
      generalize xs[k] = x at h0 h1 K1 K2 F T1 T2
      obtain ⟨ss, ds⟩ := x
      dsimp only at h0 h1 K1 T1 T2
      obtain ⟨F0, F1, F2⟩ := F
      dsimp only at F0 F1 F2
      have I1 := Aside0.mk K1
      have S1 := Aside0.mk F2
      have X0 : Aside0 (∀ W, Below w.heap.size w W → W.cell? (ad.add (k * 2)) = some (.slice E1 ss.length e1)) := ⟨fun W h => (h.cell (World.block_lt_of_cell? _ _ h0)).trans h0⟩
      have x0 := X0.out _ B1.out
      have x1 := (B1.out.cell (World.block_lt_of_cell? _ _ h1)).trans h1
      clear K1 K2 F2 h0 h1 q1 q2 N1 hc
      as_aux_lemma =>
        go_wp2
        go_loopw [3, 5, 25, 26, 27, 28, 29, 30, 31, 32, 33, 34, 35, 36, 37, 38, 39, 40, 41, 42, 43, 44, 45, 46, 47, 48, 49] (fun n jv _ _ _ _ _ _ _ _ _ _ _ _ _ _ _ _ _ _ _ _ _ _ _ _ _ wz => ∃ j m : Nat, j ≤ ss.length ∧ jv = .int .i64 j ∧ n = .int .i64 m ∧ m ≤ 281474976710656 ∧ Aside0 (m ≤ 1000 → m = wR (xs.take k) + 1 + ds.length + j ∧ ∀ s ∈ ss.take j, okSel s) ∧ Aside0 (Below w.heap.size w wz)) (fun _ jv _ _ _ _ _ _ _ _ _ _ _ _ _ _ _ _ _ _ _ _ _ _ _ _ _ _ => ss.length - (RowKit.intOf jv).toNat)
        case atStart => exact ⟨0, m + 1 + ds.length, Nat.zero_le _, rfl, by go_num, by omega, ⟨fun _ => ⟨by have := N2.out.1; omega, fun s hs => by simp at hs⟩⟩, B1⟩
        case round =>
          obtain ⟨j, m, hj, rfl, rfl, hm, N3, B3⟩ := hrel
          have x0 := X0.out _ B3.out
          by_cases hc : j < ss.length ∧ m ≤ 1000
          · have hjl := hc.1
            have h5 := hc.2
            have g3 : decide ((j : Int) < (ss.length : Int)) = true := decide_eq_true (by omega)
            have g4 : decide ((m : Int) ≤ 1000) = true := decide_eq_true (by omega)
            have N4 := Aside0.mk (N3.out hc.2)
            obtain ⟨ax, P1, p1, P2, p2, ex, z0, z1, q3, K3, q4, K4⟩ := at_two I1.out j hjl hjl
            subst ex
            have y0 := (B3.out.cell (World.block_lt_of_cell? _ _ z0)).trans z0
            have y1 := (B3.out.cell (World.block_lt_of_cell? _ _ z1)).trans z1
            have F := S1.out _ (List.getElem_mem hjl)
            have HL := Aside0.mk (LargeS ss[j].1 ss[j].2 P1 p1 P2 p2 _ (Kd.C_below K3 B3.out) F.1 F.2.1 F.2.2)
            have T3 : Aside0 (okSel ss[j] → ∀ s ∈ ss.take (j + 1), okSel s) := ⟨fun h => all_next hjl N4.out.2 h⟩
            have T4 : Aside0 (wS ss[j].1 ≤ 500 ∧ ss[j].2.length ≤ 100 → okSel ss[j]) := ⟨fun h => h⟩
            generalize ss[j] = t at y0 y1 HL T3 T4
            clear z0 z1 q3 K3 q4 K4 F N3 hc
            go_wp2_with (first | (go_at_call 10; refine HL.out.mono ?_; rintro e w' ⟨b, rfl, hb, hB⟩; have HX := Aside0.mk hb; have HY := Aside0.mk (below_then B3.out B3.out.size hB); clear hb hB))
            · go_ret
              exact ⟨_, rfl, (fun h => by cases h), HY.out⟩
            · rename_i hb0
              exact ⟨⟨j + 1, m + 1, by omega, by go_num, by go_num, by omega, ⟨fun _ => ⟨by have := N4.out.1; omega, T3.out (T4.out (HX.out hb0))⟩⟩, HY⟩, by simp [RowKit.intOf]; omega⟩
          · have hex : (decide ((j : Int) < (ss.length : Int)) = false ∧ decide (j < ss.length) = false) ∨ (decide ((j : Int) < (ss.length : Int)) = true ∧ decide (j < ss.length) = true ∧ decide ((m : Int) ≤ 1000) = false ∧ decide (m ≤ 1000) = false) := by
              by_cases h : j < ss.length
              · exact .inr ⟨decide_eq_true (by omega), decide_eq_true (by omega), decide_eq_false (by omega), decide_eq_false (by omega)⟩
              · exact .inl ⟨decide_eq_false (by omega), decide_eq_false (by omega)⟩
            have NF : Aside0 (m ≤ 1000 → m = wR (xs.take k) + (1 + ds.length + ss.length) ∧ ∀ s ∈ ss, okSel s) := ⟨fun h => by
              have h1 := N3.out h
              rw [show j = ss.length by omega, List.take_length] at h1
              exact ⟨by omega, h1.2⟩⟩
            clear N3 hc
            rcases hex with ⟨g7, g7n⟩ | ⟨g7, g7n, g8, g8n⟩
            all_goals
              as_aux_lemma =>
                go_wp2
                exact ⟨⟨k + 1, m, by omega, by go_num, rfl, hm, ⟨fun h => ⟨by rw [T1.out]; exact (NF.out h).1, T2.out (NF.out h).2⟩⟩, B3⟩, by simp [RowKit.intOf]; omega⟩
    · have hex : (decide ((k : Int) < (xs.length : Int)) = false ∧ decide (k < xs.length) = false) ∨ (decide ((k : Int) < (xs.length : Int)) = true ∧ decide (k < xs.length) = true ∧ decide ((m : Int) ≤ 1000) = false ∧ decide (m ≤ 1000) = false) := by
        by_cases h : k < xs.length
        · exact .inr ⟨decide_eq_true (by omega), decide_eq_true (by omega), decide_eq_false (by omega), decide_eq_false (by omega)⟩
        · exact .inl ⟨decide_eq_false (by omega), decide_eq_false (by omega)⟩
      have NF : Aside0 (m ≤ 1000 → xs.length ≤ 100 → sizR xs) := ⟨fun h h0 => by
        have h1 := N1.out h
        rw [show k = xs.length by omega, List.take_length] at h1
        exact ⟨h0, by omega, h1.2⟩⟩
      clear N1 hc
      rcases hex with ⟨g1, n1⟩ | ⟨g1, n1, g2, n2⟩
      all_goals
        by_cases h5 : m ≤ 1000
        · have g5 : decide ((1000 : Int) < (m : Int)) = false := decide_eq_false (by omega)
          by_cases h1 : xs.length ≤ 100
          · have g6 : decide ((100 : Int) < (xs.length : Int)) = false := decide_eq_false (by omega)
            as_aux_lemma =>
              go_wp2
              go_ret
              exact ⟨_, rfl, fun _ => NF.out h5 h1, B1.out⟩
          · have g6 : decide ((100 : Int) < (xs.length : Int)) = true := decide_eq_true (by omega)
            as_aux_lemma =>
              go_wp2
              go_ret
              exact ⟨_, rfl, (fun h => by cases h), B1.out⟩
        · have g5 : decide ((1000 : Int) < (m : Int)) = true := decide_eq_true (by omega)
          as_aux_lemma =>
            go_wp2
            go_ret
            exact ⟨_, rfl, (fun h => by cases h), B1.out⟩
end Go.Proofs.Sht
set_option linter.unusedVariables false
set_option linter.unusedSimpArgs false
namespace Go.Proofs.Shi
open Go.RowKit Go.ChangeShapes Go.WideShapes Go.Deep Go.Proofs.YtolfpgccebdlpaaGreatDoorW.PrintWords Go.Proofs.Tok Go.Proofs.Sht
variable {H : Type} {enc : TypeId × Value → H} {w : World} {base : Nat} {spare : Nat → Bool} {held : Bool}
theorem trod_struct5 {P : Program} {t : TypeId} {f0 f1 f2 f3 f4 : Field} {fuel : Nat} {cs : List Value} {x : DataW H × List MemPlace} (ht : P.underlying t = some (.struct #[f0, f1, f2, f3, f4])) (h : DataW.trod enc P w base spare held fuel t cs = some x) :
    ∃ y0 y1 y2 y3 y4 n, x.1 = .agg [y0.1, y1.1, y2.1, y3.1, y4.1] ∧ cs.length = P.cellsOf t ∧ DataW.trod enc P w base spare held n f0.type ((cs.drop f0.offset).take (P.cellsOf f0.type)) = some y0 ∧
      DataW.trod enc P w base spare held n f1.type ((cs.drop f1.offset).take (P.cellsOf f1.type)) = some y1 ∧ DataW.trod enc P w base spare held n f2.type ((cs.drop f2.offset).take (P.cellsOf f2.type)) = some y2 ∧
      DataW.trod enc P w base spare held n f3.type ((cs.drop f3.offset).take (P.cellsOf f3.type)) = some y3 ∧ DataW.trod enc P w base spare held n f4.type ((cs.drop f4.offset).take (P.cellsOf f4.type)) = some y4 := by
  obtain ⟨xs, n, _, rfl, hl, hlen, hf⟩ := DataW.trod_struct ht h
  match xs, hlen with
  | [y0, y1, y2, y3, y4], _ => exact ⟨y0, y1, y2, y3, y4, n, by simp, hl, by simpa using hf 0 f0 rfl, by simpa using hf 1 f1 rfl, by simpa using hf 2 f2 rfl, by simpa using hf 3 f3 rfl, by simpa using hf 4 f4 rfl⟩
theorem opens_in {P : Program} {α : Type} [Inhabited α] {d : Kd α} {Wf : α → DataW H → Prop} {t e : TypeId} (ht : P.underlying t = some (.slice e)) (hce : P.cellsOf e = d.sz)
    (hop : ∀ n cs x, DataW.trod enc P w base spare held n e cs = some x → ∃ y, d.K w y cs ∧ Wf y x.1) {fuel : Nat} {cs : List Value} {x : DataW H × List MemPlace} (h : DataW.trod enc P w base spare held fuel t cs = some x) :
    ∃ (A : Option Addr) (cap : Nat) (xs : List α), cs = [.slice A xs.length cap] ∧ xs.length ≤ cap ∧ d.C w A xs.length xs ∧ ∀ y ∈ xs, ∃ D es sp, x.1 = .slice es sp ∧ D ∈ es ∧ Wf y D := by
  have shape : ∃ A len cap, cs = [.slice A len cap] := by
    rcases open_slice ht h with ⟨hcs, _⟩ | ⟨ad, len', cap', m, n, D, Pl, hcs, _⟩
    · exact ⟨_, _, _, hcs⟩
    · exact ⟨_, _, _, hcs⟩
  obtain ⟨A, len, cap, rfl⟩ := shape
  obtain ⟨xs, hl, hc, hC, hw⟩ := Go.Proofs.Scn.opens_slice_in (Wf := Wf) ht hce hop (a := A) (len := len) (cap := cap) (dd := x.1) (ps := x.2) ⟨fuel, by simpa [Value.cells] using h⟩
  subst hl
  exact ⟨A, cap, xs, rfl, hc, hC, hw⟩
/-- how many there are in a slice that came in -/
theorem opens_len {P : Program} {t e : TypeId} (ht : P.underlying t = some (.slice e)) {fuel : Nat} {A : Option Addr} {len cap : Nat} {x : DataW H × List MemPlace} (h : DataW.trod enc P w base spare held fuel t [.slice A len cap] = some x) (hw : ∀ n ∈ x.1.weights P t, n ≤ reachBytes) : len * P.bytesOf e ≤ reachBytes := by
  rcases open_slice ht h with ⟨hcs, _⟩ | ⟨ad, len', cap', m, n, D, Pl, hcs, _, _, _, hmm, hxx, _⟩
  · cases hcs
    rw [Nat.zero_mul]
    exact Nat.zero_le _
  · cases hcs
    have hlm : len ≤ m := by rw [hmm]; split <;> omega
    refine Nat.le_trans (Nat.mul_le_mul_right _ ?_) (hw ((((List.range len).map D).length + ((List.range (m - len)).map fun j => D (len + j)).length) * P.bytesOf e) (by rw [hxx, DataW.weights, ht]; exact List.mem_cons_self))
    rw [List.length_map, List.length_range]
    omega
def light (P : Program) (t : TypeId) (D : DataW H) : Prop := ∀ n ∈ D.weights P t, n ≤ reachBytes
theorem light_in {P : Program} {t e : TypeId} (ht : P.underlying t = some (.slice e)) {es sp : List (DataW H)} (h : light P t (.slice es sp)) {D : DataW H} (hD : D ∈ es) : light P e D := by
  intro n hn
  refine h n ?_
  rw [DataW.weights, ht]
  exact List.mem_cons_of_mem _ (List.mem_append_left _ (Go.Proofs.Scn.weightsAll_mem hD hn))
theorem light_of {P : Program} {ts : List TypeId} {ds : List (DataW H)} {j : Nat} {t : TypeId} {d : DataW H} (hsz : (DataW.weightsEach P ts ds).all (· ≤ reachBytes) = true) (htj : ts[j]? = some t) (hd : ds[j]? = some d) : light P t d := by
  intro n hn
  have := List.all_eq_true.1 hsz n (DataW.weights_mem_each htj hd n hn)
  simpa using this
theorem szB (s : ByteArray) : s.size = s.data.toList.length := by rw [Array.length_toList]; rfl
theorem open_str {n : Nat} {cs : List Value} {x : DataW H × List MemPlace} (h : DataW.trod enc Tryz.prog w base spare held n 9 cs = some x) :
    ∃ s : ByteArray, cs = [.string s] ∧ (light Tryz.prog 9 x.1 → s.size ≤ 140737488355328) := by
  obtain ⟨s, rfl, hx, _⟩ := DataW.trod_string Tryz.underlying9 h
  refine ⟨s, rfl, fun hl => ?_⟩
  rw [hx] at hl
  have := hl s.data.toList.length (by simp [DataW.weights])
  rw [← szB] at this
  exact Nat.le_trans this (by decide)
theorem open_strs {n : Nat} {cs : List Value} {x : DataW H × List MemPlace} (h : DataW.trod enc Tryz.prog w base spare held n 76 cs = some x) :
    ∃ (A : Option Addr) (cap : Nat) (l : List ByteArray), cs = [.slice A l.length cap] ∧ l.length ≤ cap ∧ Kd.string.C w A l.length l ∧ (light Tryz.prog 76 x.1 → l.length ≤ 140737488355328 ∧ smT l) := by
  have h0 := h
  obtain ⟨A, cap, l, h1, h2, h3, h4⟩ := opens_in (d := Kd.string) (Wf := fun s D => light Tryz.prog 9 D → s.size ≤ 140737488355328) Tryz.underlying76 (by kernel_rfl) (fun n cs x h => by obtain ⟨s, rfl, hx⟩ := open_str h; exact ⟨s, rfl, hx⟩) h
  refine ⟨A, cap, l, h1, h2, h3, fun hl => ⟨?_, fun s hs => ?_⟩⟩
  · rw [h1] at h0
    have := opens_len Tryz.underlying76 h0 hl
    rw [show Tryz.prog.bytesOf 9 = 16 by kernel_rfl] at this
    have hr : reachBytes = 140737488351232 := rfl
    omega
  · obtain ⟨D, es, sp, e1, e2, e3⟩ := h4 s hs
    rw [e1] at hl
    exact e3 (light_in Tryz.underlying76 hl e2)
instance : Inhabited Smp := ⟨zSmp⟩
set_option maxRecDepth 100000 in
theorem open_smp {n : Nat} {cs : List Value} {x : DataW H × List MemPlace} (h : DataW.trod enc Tryz.prog w base spare held n 80 cs = some x) :
    ∃ y : Smp, kSmp.K w y cs ∧ (light Tryz.prog 80 x.1 → smP y) := by
  obtain ⟨y0, y1, y2, y3, y4, m, hx, hl, h0, h1, h2, h3, h4⟩ := trod_struct5 Tryz.underlying80 h
  have hl5 : cs.length = 5 := hl.trans (by kernel_rfl)
  have c9 : Tryz.prog.cellsOf 9 = 1 := by kernel_rfl
  have c42 : Tryz.prog.cellsOf 76 = 1 := by kernel_rfl
  have c4 : Tryz.prog.cellsOf 4 = 1 := by kernel_rfl
  match cs, hl5 with
  | [a, b, c, d, e], _ =>
    obtain ⟨s0, g0, e0⟩ := open_str h0
    obtain ⟨A1, p1, l1, g1, q1, C1, z1⟩ := open_strs h1
    obtain ⟨A2, p2, l2, g2, q2, C2, z2⟩ := open_strs h2
    obtain ⟨b3, g3, _⟩ := DataW.trod_bool Tryz.underlying4 h3
    obtain ⟨b4, g4, _⟩ := DataW.trod_bool Tryz.underlying4 h4
    simp [c9] at g0
    simp [c42] at g1 g2
    simp [c4] at g3 g4
    subst g0; subst g1; subst g2; subst g3; subst g4
    refine ⟨(s0, l1, l2, b3, b4), ⟨_, _, rfl, rfl, ⟨_, _, rfl, ⟨A1, p1, rfl, q1, C1⟩, ⟨_, _, rfl, ⟨A2, p2, rfl, q2, C2⟩, ⟨_, _, rfl, rfl, rfl⟩⟩⟩⟩, fun hli => ?_⟩
    rw [hx] at hli
    have key : ∀ n, n ∈ y0.1.weights Tryz.prog 9 ∨ n ∈ y1.1.weights Tryz.prog 76 ∨ n ∈ y2.1.weights Tryz.prog 76 → n ≤ reachBytes := by
      intro n hn
      refine hli n ?_
      rw [DataW.weights, Tryz.underlying80]
      simp only [DataW.weightsEach, List.map_cons, List.mem_append]
      rcases hn with hn | hn | hn
      · exact Or.inl hn
      · exact Or.inr (Or.inl hn)
      · exact Or.inr (Or.inr (Or.inl hn))
    exact ⟨e0 fun n hn => key n (Or.inl hn), z1 fun n hn => key n (Or.inr (Or.inl hn)), z2 fun n hn => key n (Or.inr (Or.inr hn))⟩
/-- two slices, one behind the other, in a struct -/
theorem open_two {P : Program} {α β : Type} [Inhabited α] [Inhabited β] {d1 : Kd α} {d2 : Kd β} {W1 : α → Prop} {W2 : β → Prop} {t ta tb ea eb : TypeId} {f0 f1 : Field} (ht : P.underlying t = some (.struct #[f0, f1])) (hfa : f0.type = ta) (hfb : f1.type = tb) (o0 : f0.offset = 0) (o1 : f1.offset = 1) (hsz : P.cellsOf t = 2) (h1 : P.underlying ta = some (.slice ea)) (h2 : P.underlying tb = some (.slice eb)) (s1 : P.cellsOf ta = 1) (s2 : P.cellsOf tb = 1) (z1 : P.cellsOf ea = d1.sz) (z2 : P.cellsOf eb = d2.sz) {Ba Bb : Nat} (b1 : P.bytesOf ea = Ba) (b2 : P.bytesOf eb = Bb)
    (p1 : ∀ n cs (x : DataW H × List MemPlace), DataW.trod enc P w base spare held n ea cs = some x → ∃ y, d1.K w y cs ∧ (light P ea x.1 → W1 y))
    (p2 : ∀ n cs (x : DataW H × List MemPlace), DataW.trod enc P w base spare held n eb cs = some x → ∃ y, d2.K w y cs ∧ (light P eb x.1 → W2 y))
    {n : Nat} {cs : List Value} {x : DataW H × List MemPlace} (h : DataW.trod enc P w base spare held n t cs = some x) :
    ∃ y : List α × List β, (Kd.pair (Kd.slice ea d1) (Kd.slice eb d2)).K w y cs ∧ (light P t x.1 → (y.1.length * Ba ≤ 140737488351232 ∧ y.2.length * Bb ≤ 140737488351232) ∧ (∀ a ∈ y.1, W1 a) ∧ ∀ b ∈ y.2, W2 b) := by
  obtain ⟨y0, y1, m, hx0, hl, g0, g1⟩ := trod_struct2 ht h
  have hx : x.1 = .agg [y0.1, y1.1] := by rw [hx0]
  have hl2 : cs.length = 2 := hl.trans hsz
  subst hfa; subst hfb
  match cs, hl2 with
  | [a, b], _ =>
    have g00 := g0
    have g11 := g1
    obtain ⟨A0, q0, l0, e0, c0, C0, w0⟩ := opens_in (Wf := fun y D => light P ea D → W1 y) h1 z1 p1 g0
    obtain ⟨A1, q1, l1, e1, c1, C1, w1⟩ := opens_in (Wf := fun y D => light P eb D → W2 y) h2 z2 p2 g1
    rw [e0] at g00
    rw [e1] at g11
    simp [s1, o0] at e0
    simp [s2, o1] at e1
    subst e0; subst e1
    refine ⟨(l0, l1), ⟨[_], [_], rfl, ⟨A0, q0, rfl, c0, C0⟩, ⟨A1, q1, rfl, c1, C1⟩⟩, fun hli => ?_⟩
    have key : (light P f0.type y0.1) ∧ light P f1.type y1.1 := by
      constructor
      · intro n hn
        refine hli n ?_
        rw [hx, DataW.weights, ht]
        simp only [DataW.weightsEach, List.map_cons, List.mem_append]
        exact Or.inl hn
      · intro n hn
        refine hli n ?_
        rw [hx, DataW.weights, ht]
        simp only [DataW.weightsEach, List.map_cons, List.mem_append]
        exact Or.inr (Or.inl hn)
    refine ⟨⟨?_, ?_⟩, fun a ha => ?_, fun b hb => ?_⟩
    · have := opens_len h1 g00 key.1
      rw [b1] at this
      exact this
    · have := opens_len h2 g11 key.2
      rw [b2] at this
      exact this
    · obtain ⟨D, es, sp, e1, e2, e3⟩ := w0 a ha
      have := key.1
      rw [e1] at this
      exact e3 (light_in h1 this e2)
    · obtain ⟨D, es, sp, e1, e2, e3⟩ := w1 b hb
      have := key.2
      rw [e1] at this
      exact e3 (light_in h2 this e2)
theorem open_bool1 {n : Nat} {cs : List Value} {x : DataW H × List MemPlace} (h : DataW.trod enc Tryz.prog w base spare held n 4 cs = some x) : ∃ y : Bool, Kd.bool.K w y cs ∧ (light Tryz.prog 4 x.1 → True) := by
  obtain ⟨s, rfl, _⟩ := DataW.trod_bool Tryz.underlying4 h
  exact ⟨s, rfl, fun _ => trivial⟩
set_option maxRecDepth 100000 in
theorem open_sel {n : Nat} {cs : List Value} {x : DataW H × List MemPlace} (h : DataW.trod enc Tryz.prog w base spare held n 25 cs = some x) :
    ∃ y : Sel, kSel.K w y cs ∧ (light Tryz.prog 25 x.1 → y.1.length ≤ 1954687338211 ∧ smS y) := by
  obtain ⟨y, hK, hW⟩ := open_two (d1 := kSmp) (d2 := Kd.bool) (W1 := smP) (W2 := fun _ => True) Tryz.underlying25 rfl rfl rfl rfl (by kernel_rfl) Tryz.underlying22 Tryz.underlying23 (by kernel_rfl) (by kernel_rfl) (by kernel_rfl) (by kernel_rfl) (Ba := 72) (Bb := 1) (by kernel_rfl) (by kernel_rfl) (fun n cs x h => open_smp h) (fun n cs x h => open_bool1 h) h
  refine ⟨y, hK, fun hl => ?_⟩
  obtain ⟨⟨a, b⟩, c, _⟩ := hW hl
  exact ⟨by omega, by omega, by omega, c⟩
set_option maxRecDepth 100000 in
theorem open_dc {n : Nat} {cs : List Value} {x : DataW H × List MemPlace} (h : DataW.trod enc Tryz.prog w base spare held n 111 cs = some x) :
    ∃ y : Dc, kDc.K w y cs ∧ (light Tryz.prog 111 x.1 → True) := by
  obtain ⟨y0, y1, y2, m, hx, hl, h0, h1, h2⟩ := trod_struct3 Tryz.underlying111 h
  have hl4 : cs.length = 4 := hl.trans (by kernel_rfl)
  have c2 : Tryz.prog.cellsOf 3 = 1 := by kernel_rfl
  have c4 : Tryz.prog.cellsOf 4 = 1 := by kernel_rfl
  have c5 : Tryz.prog.cellsOf 109 = 2 := by kernel_rfl
  have c6 : Tryz.prog.cellsOf 2 = 1 := by kernel_rfl
  match cs, hl4 with
  | [a, b, c, d], _ =>
    obtain ⟨z0, z1, m2, hx1, hl1, k0, k1⟩ := trod_struct2 Tryz.underlying109 h1
    obtain ⟨n0, g0, _, _⟩ := DataW.trod_int Tryz.underlying3 h0
    obtain ⟨n1, g1, _, _⟩ := DataW.trod_int Tryz.underlying3 k0
    obtain ⟨n2, g2, _, _⟩ := DataW.trod_int Tryz.underlying2 k1
    obtain ⟨b3, g3, _⟩ := DataW.trod_bool Tryz.underlying4 h2
    simp [c2] at g0
    simp [c2, c5] at g1
    simp [c5, c6] at g2
    simp [c4] at g3
    subst g0; subst g1; subst g2; subst g3
    exact ⟨(n0, n1, n2, b3), ⟨_, _, rfl, rfl, ⟨_, _, rfl, rfl, ⟨_, _, rfl, rfl, rfl⟩⟩⟩, fun _ => trivial⟩
instance : Inhabited Sel := ⟨zSel⟩
instance : Inhabited Dc := ⟨zDc⟩
instance : Inhabited Rl := ⟨zRl⟩
/-- what is asked of rules that came in -/
def okIn (r : Rl) : Prop := r.1.length ≤ 2932031007317 ∧ r.2.length ≤ 4398046511000 ∧ ∀ s ∈ r.1, s.1.length ≤ 1954687338211 ∧ smS s
theorem okIn_smR {r : Rl} (h : okIn r) : smR r := by
  obtain ⟨a, b, c⟩ := h
  exact ⟨by omega, by omega, fun s hs => (c s hs).2⟩
set_option maxRecDepth 100000 in
theorem open_rl {n : Nat} {cs : List Value} {x : DataW H × List MemPlace} (h : DataW.trod enc Tryz.prog w base spare held n 115 cs = some x) :
    ∃ y : Rl, kRl.K w y cs ∧ (light Tryz.prog 115 x.1 → okIn y) := by
  obtain ⟨y, hK, hW⟩ := open_two (d1 := kSel) (d2 := kDc) (W1 := fun s => s.1.length ≤ 1954687338211 ∧ smS s) (W2 := fun _ => True) Tryz.underlying115 rfl rfl rfl rfl (by kernel_rfl) Tryz.underlying36 Tryz.underlying63 (by kernel_rfl) (by kernel_rfl) (by kernel_rfl) (by kernel_rfl) (Ba := 48) (Bb := 32) (by kernel_rfl) (by kernel_rfl) (fun n cs x h => open_sel h) (fun n cs x h => open_dc h) h
  refine ⟨y, hK, fun hl => ?_⟩
  obtain ⟨⟨a, b⟩, c, _⟩ := hW hl
  exact ⟨by omega, by omega, c⟩
set_option maxRecDepth 100000 in
theorem argRules {A : Option Addr} {len cap : Nat} {dd : DataW H} {ps : List MemPlace} (h : DataW.Trod enc Tryz.prog w base spare held 50 (.slice A len cap) dd ps) :
    ∃ (l : List Rl), len = l.length ∧ l.length ≤ cap ∧ kRl.C w A l.length l ∧ (light Tryz.prog 50 dd → l.length ≤ 2932031007317 ∧ ∀ x ∈ l, okIn x) := by
  have h0 := h
  obtain ⟨l, hl, hc, hC, hw⟩ := Go.Proofs.Scn.opens_slice_in (d := kRl) (Wf := fun y D => light Tryz.prog 115 D → okIn y) Tryz.underlying50 (by kernel_rfl) (fun n cs x h => open_rl h) h
  refine ⟨l, hl.symm, by omega, hC, fun hli => ⟨?_, fun x hx => ?_⟩⟩
  · obtain ⟨fuel, hf⟩ := h0
    have := opens_len Tryz.underlying50 (x := (dd, ps)) (by simpa [Value.cells] using hf) hli
    rw [show Tryz.prog.bytesOf 115 = 48 by kernel_rfl] at this
    have hr : reachBytes = 140737488351232 := rfl
    omega
  · obtain ⟨D, es, sp, rfl, e2, e3⟩ := hw x hx
    exact e3 (light_in Tryz.underlying50 hli e2)
end Go.Proofs.Shi
