/- sheet.Same: contracts proved by walking its text; no condition beside those that each theorem states. -/
import Derived.Test.YtolfpgccebdlpaaGreatDoorVaG
import Derived.Test.YtolfpgccebdlpaaGreatDoorSmg
import Derived.Test.YtolfpgccebdlpaaGreatDoorWEqStruct
import Derived.Test.YtolfpgccebdlpaaGreatDoorPrn
import Derived.Deep.RegionHeld3
set_option linter.unusedVariables false
set_option linter.unusedSimpArgs false
namespace Go.Proofs.Sht
open Go.RowKit Go.Lib Go.Proofs.YtolfpgccebdlpaaGreatDoorW.PrintWords Go.Proofs.YtolfpgccebdlpaaGreatDoorW.PrintLast Go.Proofs.YtolfpgccebdlpaaGreatDoorW.PrintMore Go.Proofs.Tok
instance instSmp : DecidableEq Smp := fun a b => inferInstanceAs (Decidable (a = b))
instance instSel : DecidableEq Sel := instDecidableEqProd
instance instRl : DecidableEq Rl := instDecidableEqProd
theorem eqVal (d : Nat) (w : World) (x0 y0 : Int) (x1 y1 : Int) :
    (Op.equalIn (d + 2) 109 (.agg #[.int .i64 x0, .int .i64 x1]) (.agg #[.int .i64 y0, .int .i64 y1])).run Tryz.prog w = .ok (x0 == y0 && (x1 == y1)) w := by
  refine eqA_of Tryz.underlying109 (by kernel_rfl) ?_
  refine eqf_cons (by rfl) (by go_simp; rfl) (by go_simp; rfl) (by go_simp) ?_
  exact eqf_last (by rfl) (by go_simp; rfl) (by go_simp; rfl) (by go_simp)
theorem eqDc (d : Nat) (w : World) (x0 y0 : Int) (x1 y1 : Int) (x2 y2 : Int) (x3 y3 : Bool) :
    (Op.equalIn (d + 3) 111 (.agg #[.int .i64 x0, .int .i64 x1, .int .i64 x2, .bool x3]) (.agg #[.int .i64 y0, .int .i64 y1, .int .i64 y2, .bool y3])).run Tryz.prog w = .ok (x0 == y0 && ((x1 == y1 && (x2 == y2)) && (x3 == y3))) w := by
  refine eqA_of Tryz.underlying111 (by kernel_rfl) ?_
  refine eqf_cons (by rfl) (by go_simp; rfl) (by go_simp; rfl) (by go_simp) ?_
  refine eqf_cons (by rfl) (by go_simp) (by go_simp) (eqVal (d + 0) w _ _ _ _) ?_
  exact eqf_last (by rfl) (by go_simp; rfl) (by go_simp; rfl) (by go_simp)
attribute [local go_sem high] eqDc
theorem dec4 (a b c a' b' c' : Int) (d d' : Bool) : (a == a' && ((b == b' && (c == c')) && (d == d'))) = decide ((a, b, c, d) = ((a', b', c', d') : Dc)) := by
  rw [Bool.eq_iff_iff]
  simp [and_assoc]
def lenS (x : Sel) : Prop := x.1.length ≤ 1000000 ∧ x.2.length ≤ 1000000 ∧ ∀ p ∈ x.1, lenX p
def lenR (r : Rl) : Prop := r.1.length ≤ 1000000 ∧ r.2.length ≤ 1000000 ∧ ∀ x ∈ r.1, lenS x
theorem pair_dec {α β : Type} [DecidableEq α] [DecidableEq β] (x y : α × β) : (decide (x.1 = y.1) && decide (x.2 = y.2)) = decide (x = y) := by
  obtain ⟨a, b⟩ := x
  obtain ⟨c, d⟩ := y
  rw [Bool.eq_iff_iff]
  simp
theorem selSame (x y : Sel) (hx : lenS x) (hy : lenS y) (A0 A1 E0 E1 : Option Addr) (c0 c1 d0 d1 : Nat) (w : World) (C0 : Kd.C kSmp w A0 x.1.length x.1) (D0 : Kd.C Kd.bool w E0 x.2.length x.2) (C1 : Kd.C kSmp w A1 y.1.length y.1) (D1 : Kd.C Kd.bool w E1 y.2.length y.2) :
    Calls Tryz.prog 23 #[.agg #[.slice A0 x.1.length c0, .slice E0 x.2.length d0], .agg #[.slice A1 y.1.length c1, .slice E1 y.2.length d1]] w fun e w' => e = .returned (.bool (decide (x = y))) ∧ Below w.heap.size w w' := by
  rw [← pair_dec]
  exact Same_any x.1 y.1 x.2 y.2 A0 A1 E0 E1 c0 c1 d0 d1 w C0 C1 D0 D1 hx.1 hy.1 hx.2.1 hy.2.1 hx.2.2 hy.2.2
set_option maxHeartbeats 4000000 in
set_option maxRecDepth 400000 in
theorem eq_decls (xs ys : List Dc) (A0 A1 : Option Addr) (c0 c1 : Nat) (w : World) (C0 : Kd.C kDc w A0 xs.length xs) (C1 : Kd.C kDc w A1 ys.length ys) (hl : xs.length ≤ 9223372036854775807) (hl1 : ys.length ≤ 9223372036854775807) :
    Calls Tryz.prog 83 #[.slice A0 xs.length c0, .slice A1 ys.length c1] w fun e w' => e = .returned (.bool (decide (xs = ys))) ∧ Below w.heap.size w w' := by
  have D0 := Aside0.mk C0
  have D1 := Aside0.mk C1
  clear C0 C1
  have hu1 := Tryz.underlying111
  have hu2 := Tryz.underlying109
  by_cases hn : xs.length = ys.length
  · have HN := Aside0.mk hn
    have e0 : (((xs.length : Nat) : Int) == ((xs.length : Nat) : Int)) = true := by simp
    rw [← hn]
    obtain ⟨r, hr⟩ : ∃ r, decide (xs = ys) = r := ⟨_, rfl⟩
    have HR := Aside0.mk hr
    rw [hr]
    clear hr hn hl1
    obtain ⟨n, hn⟩ : ∃ n, xs.length = n := ⟨_, rfl⟩
    have HX := Aside0.mk hn
    rw [hn] at HN e0 hl ⊢
    clear hn
    go_enter Tryz.func83, Tryz.ntmps83
    go_wp2
    go_loopw [5, 13, 14, 15, 16, 17, 18, 19, 20, 21, 22, 23, 24, 25] (fun _ i _ _ _ _ _ _ _ _ _ _ _ _ wr => ∃ k : Nat, k ≤ n ∧ i = .int .i64 k ∧ Aside0 (xs.take k = ys.take k) ∧ Aside0 (Below w.heap.size w wr)) (fun _ i _ _ _ _ _ _ _ _ _ _ _ _ _ => n - (RowKit.intOf i).toNat)
    case atStart => exact ⟨0, Nat.zero_le _, rfl, ⟨rfl⟩, ⟨Below.refl _ _⟩⟩
    case round =>
      obtain ⟨k, hk, rfl, T1, B1⟩ := hrel
      by_cases hlt : k < n
      · have g1 : decide ((k : Int) < (n : Int)) = true := decide_eq_true (by omega)
        have hx : k < xs.length := by rw [HX.out]; exact hlt
        have hy : k < ys.length := by rw [← HN.out]; exact hlt
        obtain ⟨a0, ea0, h0, h1, h2, h3⟩ := at_Dc D0.out k hx hx
        obtain ⟨a1, ea1, m0, m1, m2, m3⟩ := at_Dc D1.out k hy hy
        subst ea0
        subst ea1
        have hB := fun (p : Addr) (v : Value) (h : w.cell? p = some v) => (B1.out.cell (World.block_lt_of_cell? _ _ h)).trans h
        have x0 := hB _ _ h0
        have x1 := hB _ _ h1
        have x2 := hB _ _ h2
        have x3 := hB _ _ h3
        have y0 := hB _ _ m0
        have y1 := hB _ _ m1
        have y2 := hB _ _ m2
        have y3 := hB _ _ m3
        have p1 : ((k : Int) < (n : Int)) := by omega
        have TN : Aside0 (xs[k] = ys[k] → xs.take (k + 1) = ys.take (k + 1)) := ⟨fun e => take_eq T1.out hx hy e⟩
        have TX : Aside0 (xs[k] ≠ ys[k] → xs ≠ ys) := ⟨fun h e => h (by subst e; rfl)⟩
        clear h0 h1 h2 h3 m0 m1 m2 m3 hB
        generalize xs[k] = x at x0 x1 x2 x3 TN TX
        generalize ys[k] = y at y0 y1 y2 y3 TN TX
        obtain ⟨a, b, c, d⟩ := x
        obtain ⟨a', b', c', d'⟩ := y
        dsimp only at x0 x1 x2 x3 y0 y1 y2 y3
        clear hx hy
        obtain ⟨q, hq⟩ : ∃ q, (a == a' && ((b == b' && (c == c')) && (d == d'))) = q := ⟨_, rfl⟩
        have hq2 := (dec4 a b c a' b' c' d d').symm.trans hq
        have HQ := Aside0.mk hq2
        have BB := Aside0.mk (fun (W : World) (n : Nat) (h : W = wr.drewN n) => (by rw [h]; exact pw_below_drewN B1.out n : Below w.heap.size w W))
        clear hq2
        cases q with
        | true =>
          go_wp2
          go_quiet (fail)
          go_wp2
          exact ⟨⟨k + 1, by omega, by go_num, ⟨TN.out (of_decide_eq_true HQ.out)⟩, ⟨by repeat (first | exact B1.out | apply pw_below_drewN | apply below_drew1 | apply below_drew)⟩⟩, by simp [RowKit.intOf]; omega⟩
        | false =>
          go_wp2
          go_quiet (fail)
          go_wp2
          go_ret
          exact ⟨by rw [← HR.out, decide_eq_false (TX.out (of_decide_eq_false HQ.out))]; rfl, by repeat (first | exact B1.out | apply pw_below_drewN | apply below_drew1 | apply below_drew)⟩
      · obtain rfl : k = n := by omega
        have g1 : decide ((k : Int) < (k : Int)) = false := decide_eq_false (by omega)
        have hT := T1.out
        rw [← HX.out, List.take_length, HX.out, HN.out, List.take_length] at hT
        have HT := Aside0.mk hT
        clear hT T1
        go_wp2
        go_ret
        exact ⟨by rw [← HR.out, decide_eq_true HT.out]; rfl, B1.out⟩
  · have e0 : (((xs.length : Nat) : Int) == ((ys.length : Nat) : Int)) = false := beq_eq_false_iff_ne.2 (by omega)
    rw [decide_eq_false (fun e : xs = ys => hn (by rw [e]))]
    generalize xs.length = n at e0 hn ⊢
    generalize ys.length = m at e0 hn ⊢
    go_enter Tryz.func83, Tryz.ntmps83
    go_wp2
    go_ret
    exact ⟨rfl, Below.refl _ _⟩
set_option maxHeartbeats 1000000 in
set_option maxRecDepth 400000 in
theorem eq_sels (xs ys : List Sel) (A0 A1 : Option Addr) (c0 c1 : Nat) (w : World) (C0 : Kd.C kSel w A0 xs.length xs) (C1 : Kd.C kSel w A1 ys.length ys) (hl : xs.length ≤ 1000000) (hl1 : ys.length ≤ 1000000) (hx : ∀ x ∈ xs, lenS x) (hy : ∀ y ∈ ys, lenS y) :
    Calls Tryz.prog 82 #[.slice A0 xs.length c0, .slice A1 ys.length c1, .func (.func 23) #[] #[]] w fun e w' => e = .returned (.bool (decide (xs = ys))) ∧ Below w.heap.size w w' := by
  have D0 := Aside0.mk C0
  have D1 := Aside0.mk C1
  have L0 := Aside0.mk hx
  have L1 := Aside0.mk hy
  clear C0 C1 hx hy
  have hu44 := Tryz.underlying25
  by_cases hn : xs.length = ys.length
  · have HN := Aside0.mk hn
    have e0 : (((xs.length : Nat) : Int) == ((xs.length : Nat) : Int)) = true := by simp
    rw [← hn]
    obtain ⟨r, hr⟩ : ∃ r, decide (xs = ys) = r := ⟨_, rfl⟩
    have HR := Aside0.mk hr
    rw [hr]
    clear hr hn hl1
    obtain ⟨n, hn⟩ : ∃ n, xs.length = n := ⟨_, rfl⟩
    have HX := Aside0.mk hn
    rw [hn] at HN e0 hl ⊢
    clear hn
    go_enter Tryz.func82, Tryz.ntmps82
    go_wp2
    go_loopw [7, 8, 9, 17, 18, 19, 20, 21, 22, 23, 24, 25, 26, 27, 28, 29, 30, 31] (fun _ _ _ i _ _ _ _ _ _ _ _ _ _ _ _ _ _ wr => ∃ k : Nat, k ≤ n ∧ i = .int .i64 k ∧ Aside0 (xs.take k = ys.take k) ∧ Aside0 (Below w.heap.size w wr)) (fun _ _ _ i _ _ _ _ _ _ _ _ _ _ _ _ _ _ _ => n - (RowKit.intOf i).toNat)
    case atStart => exact ⟨0, Nat.zero_le _, rfl, ⟨rfl⟩, ⟨Below.refl _ _⟩⟩
    case round =>
      obtain ⟨k, hk, rfl, T1, B1⟩ := hrel
      by_cases hlt : k < n
      · have g1 : decide ((k : Int) < (n : Int)) = true := decide_eq_true (by omega)
        have hx : k < xs.length := by rw [HX.out]; exact hlt
        have hy : k < ys.length := by rw [← HN.out]; exact hlt
        obtain ⟨a0, U1, u1, U2, u2, ea0, h0, h1, q1, F1, q2, F2⟩ := at_two D0.out k hx hx
        obtain ⟨a1, V1, v1, V2, v2, ea1, m0, m1, q3, F3, q4, F4⟩ := at_two D1.out k hy hy
        subst ea0
        subst ea1
        have hB := fun (p : Addr) (v : Value) (h : w.cell? p = some v) => (B1.out.cell (World.block_lt_of_cell? _ _ h)).trans h
        have x0 := hB _ _ h0
        have x1 := hB _ _ h1
        have y0 := hB _ _ m0
        have y1 := hB _ _ m1
        have HS := Aside0.mk (fun W (hW : Below w.heap.size w W) => selSame xs[k] ys[k] (L0.out _ (List.getElem_mem hx)) (L1.out _ (List.getElem_mem hy)) U1 V1 U2 V2 u1 v1 u2 v2 W (Kd.C_below F1 hW) (Kd.C_below F2 hW) (Kd.C_below F3 hW) (Kd.C_below F4 hW))
        have TN : Aside0 (xs[k] = ys[k] → xs.take (k + 1) = ys.take (k + 1)) := ⟨fun e => take_eq T1.out hx hy e⟩
        have TX : Aside0 (xs[k] ≠ ys[k] → xs ≠ ys) := ⟨fun h e => h (by subst e; rfl)⟩
        clear h0 h1 m0 m1 q1 q2 q3 q4 F1 F2 F3 F4 hB
        generalize xs[k] = x at x0 x1 HS TN TX
        generalize ys[k] = y at y0 y1 HS TN TX
        clear hx hy
        have al := fun (p : Addr) (v : Value) (h : wr.cell? p = some v) => (World.cell?_alloc_lt wr (Obj.cells #[.slice U1 x.1.length u1, .slice U2 x.2.length u2] 25) p (World.block_lt_of_cell? _ _ h)).trans h
        have z0 := al _ _ y0
        have z1 := al _ _ y1
        clear al
        obtain ⟨b, hb⟩ : ∃ b, decide (x = y) = b := ⟨_, rfl⟩
        have HE := Aside0.mk hb
        rw [hb] at HS
        clear hb
        cases b with
        | true =>
          go_wp2_with (first | (go_at_call 23; with_reducible refine (HS.out _ (by repeat (first | exact B1.out | apply below_alloc))).mono ?_; rintro e w' ⟨rfl, hB⟩; have HBB := Aside0.mk (two_below B1.out hB); clear hB))
          exact ⟨⟨k + 1, by omega, by go_num, ⟨TN.out (of_decide_eq_true HE.out)⟩, HBB⟩, by simp [RowKit.intOf]; omega⟩
        | false =>
          go_wp2_with (first | (go_at_call 23; with_reducible refine (HS.out _ (by repeat (first | exact B1.out | apply below_alloc))).mono ?_; rintro e w' ⟨rfl, hB⟩; have HBB := Aside0.mk (two_below B1.out hB); clear hB))
          go_ret
          exact ⟨by rw [← HR.out, decide_eq_false (TX.out (of_decide_eq_false HE.out))]; rfl, HBB.out⟩
      · obtain rfl : k = n := by omega
        have g1 : decide ((k : Int) < (k : Int)) = false := decide_eq_false (by omega)
        have hT := T1.out
        rw [← HX.out, List.take_length, HX.out, HN.out, List.take_length] at hT
        have HT := Aside0.mk hT
        clear hT T1
        go_wp2
        go_ret
        exact ⟨by rw [← HR.out, decide_eq_true HT.out]; rfl, B1.out⟩
  · have e0 : (((xs.length : Nat) : Int) == ((ys.length : Nat) : Int)) = false := beq_eq_false_iff_ne.2 (by omega)
    rw [decide_eq_false (fun e : xs = ys => hn (by rw [e]))]
    generalize xs.length = n at e0 hn ⊢
    generalize ys.length = m at e0 hn ⊢
    go_enter Tryz.func82, Tryz.ntmps82
    go_wp2
    go_ret
    exact ⟨rfl, Below.refl _ _⟩
set_option maxHeartbeats 1000000 in
set_option maxRecDepth 400000 in
theorem same1R (xs ys : List Sel) (bs cs : List Dc) (A0 A1 E0 E1 : Option Addr) (c0 c1 d0 d1 : Nat) (w : World) (C0 : Kd.C kSel w A0 xs.length xs) (C1 : Kd.C kSel w A1 ys.length ys) (D0 : Kd.C kDc w E0 bs.length bs) (D1 : Kd.C kDc w E1 cs.length cs) (hl : xs.length ≤ 1000000) (hl1 : ys.length ≤ 1000000) (hb : bs.length ≤ 1000000) (hc : cs.length ≤ 1000000) (hx : ∀ x ∈ xs, lenS x) (hy : ∀ y ∈ ys, lenS y) :
    Calls Tryz.prog 81 #[.agg #[.slice A0 xs.length c0, .slice E0 bs.length d0], .agg #[.slice A1 ys.length c1, .slice E1 cs.length d1]] w fun e w' => e = .returned (.bool (decide (xs = ys) && decide (bs = cs))) ∧ Below w.heap.size w w' := by
  have HS := Aside0.mk (fun W (hW : Below w.heap.size w W) => eq_sels xs ys A0 A1 c0 c1 W (Kd.C_below C0 hW) (Kd.C_below C1 hW) hl hl1 hx hy)
  have HB := Aside0.mk (fun W (hW : Below w.heap.size w W) => eq_decls bs cs E0 E1 d0 d1 W (Kd.C_below D0 hW) (Kd.C_below D1 hW) (by omega) (by omega))
  clear C0 C1 D0 D1 hx hy
  have hu25 := Tryz.underlying115
  obtain ⟨r1, hr1⟩ : ∃ r1, decide (xs = ys) = r1 := ⟨_, rfl⟩
  obtain ⟨r2, hr2⟩ : ∃ r2, decide (bs = cs) = r2 := ⟨_, rfl⟩
  rw [hr1] at HS ⊢
  rw [hr2] at HB ⊢
  clear hr1 hr2 hl hl1 hb hc
  generalize xs.length = n1 at HS ⊢
  generalize ys.length = n2 at HS ⊢
  generalize bs.length = m1 at HB ⊢
  generalize cs.length = m2 at HB ⊢
  have k0 := fun (j : Nat) (v : Value) (W : World) (h : (#[.slice A0 n1 c0, .slice E0 m1 d0] : Array Value)[j]? = some v) (hb : Below ((w.alloc (.cells #[.slice A0 n1 c0, .slice E0 m1 d0] 115)).alloc (.cells #[.slice A1 n2 c1, .slice E1 m2 d1] 115)).heap.size ((w.alloc (.cells #[.slice A0 n1 c0, .slice E0 m1 d0] 115)).alloc (.cells #[.slice A1 n2 c1, .slice E1 m2 d1] 115)) W) => (hb.cell (p := ⟨w.heap.size, j, none⟩) (by rw [alloc_size, alloc_size]; show w.heap.size < _; omega)).trans ((World.cell?_alloc2_first _ _ _ _).trans h)
  have k1 := fun (j : Nat) (v : Value) (W : World) (h : (#[.slice A1 n2 c1, .slice E1 m2 d1] : Array Value)[j]? = some v) (hb : Below ((w.alloc (.cells #[.slice A0 n1 c0, .slice E0 m1 d0] 115)).alloc (.cells #[.slice A1 n2 c1, .slice E1 m2 d1] 115)).heap.size ((w.alloc (.cells #[.slice A0 n1 c0, .slice E0 m1 d0] 115)).alloc (.cells #[.slice A1 n2 c1, .slice E1 m2 d1] 115)) W) => (hb.cell (p := ⟨w.heap.size + 1, j, none⟩) (by rw [alloc_size, alloc_size]; show w.heap.size + 1 < _; omega)).trans ((World.cell?_alloc2_new _ _ _ _).trans h)
  have K0 := Aside0.mk k0
  have K1 := Aside0.mk k1
  clear k0 k1
  cases r1 with
  | false =>
    go_enter Tryz.func81, Tryz.ntmps81
    go_wp2_with (first | (go_at_call 82; with_reducible refine (HS.out _ (by repeat (first | exact Below.refl _ _ | apply below_alloc | apply below_drew1 | apply pw_below_drewN))).mono ?_; rintro e w' ⟨rfl, hB⟩; have HBB := Aside0.mk (two_below (Below.refl _ _) hB); clear hB))
    go_ret
    exact ⟨rfl, HBB.out⟩
  | true =>
    go_enter Tryz.func81, Tryz.ntmps81
    go_wp2_with (first | (go_at_call 82; with_reducible refine (HS.out _ (by repeat (first | exact Below.refl _ _ | apply below_alloc | apply below_drew1 | apply pw_below_drewN))).mono ?_; rintro e w' ⟨rfl, hB⟩; have q0 := K0.out 1 (.slice E0 m1 d0) _ rfl hB; have q1 := K1.out 1 (.slice E1 m2 d1) _ rfl hB; have HBB := Aside0.mk (two_below (Below.refl _ _) hB); clear hB) | (go_at_call 83; with_reducible refine (HB.out _ HBB.out).mono ?_; rintro e w2 ⟨rfl, hB2⟩))
    go_ret
    exact ⟨rfl, below_then HBB.out HBB.out.size hB2⟩
theorem same1Ru (x y : Rl) (hx : lenR x) (hy : lenR y) (A0 A1 E0 E1 : Option Addr) (c0 c1 d0 d1 : Nat) (w : World) (C0 : Kd.C kSel w A0 x.1.length x.1) (D0 : Kd.C kDc w E0 x.2.length x.2) (C1 : Kd.C kSel w A1 y.1.length y.1) (D1 : Kd.C kDc w E1 y.2.length y.2) :
    Calls Tryz.prog 81 #[.agg #[.slice A0 x.1.length c0, .slice E0 x.2.length d0], .agg #[.slice A1 y.1.length c1, .slice E1 y.2.length d1]] w fun e w' => e = .returned (.bool (decide (x = y))) ∧ Below w.heap.size w w' := by
  rw [← pair_dec]
  exact same1R x.1 y.1 x.2 y.2 A0 A1 E0 E1 c0 c1 d0 d1 w C0 C1 D0 D1 hx.1 hy.1 hx.2.1 hy.2.1 hx.2.2 hy.2.2
set_option maxHeartbeats 1000000 in
set_option maxRecDepth 400000 in
theorem eq_rules (xs ys : List Rl) (A0 A1 : Option Addr) (c0 c1 : Nat) (w : World) (C0 : Kd.C kRl w A0 xs.length xs) (C1 : Kd.C kRl w A1 ys.length ys) (hl : xs.length ≤ 1000000) (hl1 : ys.length ≤ 1000000) (hx : ∀ x ∈ xs, lenR x) (hy : ∀ y ∈ ys, lenR y) :
    Calls Tryz.prog 80 #[.slice A0 xs.length c0, .slice A1 ys.length c1, .func (.func 81) #[] #[]] w fun e w' => e = .returned (.bool (decide (xs = ys))) ∧ Below w.heap.size w w' := by
  have D0 := Aside0.mk C0
  have D1 := Aside0.mk C1
  have L0 := Aside0.mk hx
  have L1 := Aside0.mk hy
  clear C0 C1 hx hy
  have hu44 := Tryz.underlying115
  by_cases hn : xs.length = ys.length
  · have HN := Aside0.mk hn
    have e0 : (((xs.length : Nat) : Int) == ((xs.length : Nat) : Int)) = true := by simp
    rw [← hn]
    obtain ⟨r, hr⟩ : ∃ r, decide (xs = ys) = r := ⟨_, rfl⟩
    have HR := Aside0.mk hr
    rw [hr]
    clear hr hn hl1
    obtain ⟨n, hn⟩ : ∃ n, xs.length = n := ⟨_, rfl⟩
    have HX := Aside0.mk hn
    rw [hn] at HN e0 hl ⊢
    clear hn
    go_enter Tryz.func80, Tryz.ntmps80
    go_wp2
    go_loopw [7, 8, 9, 17, 18, 19, 20, 21, 22, 23, 24, 25, 26, 27, 28, 29, 30, 31] (fun _ _ _ i _ _ _ _ _ _ _ _ _ _ _ _ _ _ wr => ∃ k : Nat, k ≤ n ∧ i = .int .i64 k ∧ Aside0 (xs.take k = ys.take k) ∧ Aside0 (Below w.heap.size w wr)) (fun _ _ _ i _ _ _ _ _ _ _ _ _ _ _ _ _ _ _ => n - (RowKit.intOf i).toNat)
    case atStart => exact ⟨0, Nat.zero_le _, rfl, ⟨rfl⟩, ⟨Below.refl _ _⟩⟩
    case round =>
      obtain ⟨k, hk, rfl, T1, B1⟩ := hrel
      by_cases hlt : k < n
      · have g1 : decide ((k : Int) < (n : Int)) = true := decide_eq_true (by omega)
        have hx : k < xs.length := by rw [HX.out]; exact hlt
        have hy : k < ys.length := by rw [← HN.out]; exact hlt
        obtain ⟨a0, U1, u1, U2, u2, ea0, h0, h1, q1, F1, q2, F2⟩ := at_two D0.out k hx hx
        obtain ⟨a1, V1, v1, V2, v2, ea1, m0, m1, q3, F3, q4, F4⟩ := at_two D1.out k hy hy
        subst ea0
        subst ea1
        have hB := fun (p : Addr) (v : Value) (h : w.cell? p = some v) => (B1.out.cell (World.block_lt_of_cell? _ _ h)).trans h
        have x0 := hB _ _ h0
        have x1 := hB _ _ h1
        have y0 := hB _ _ m0
        have y1 := hB _ _ m1
        have HS := Aside0.mk (fun W (hW : Below w.heap.size w W) => same1Ru xs[k] ys[k] (L0.out _ (List.getElem_mem hx)) (L1.out _ (List.getElem_mem hy)) U1 V1 U2 V2 u1 v1 u2 v2 W (Kd.C_below F1 hW) (Kd.C_below F2 hW) (Kd.C_below F3 hW) (Kd.C_below F4 hW))
        have TN : Aside0 (xs[k] = ys[k] → xs.take (k + 1) = ys.take (k + 1)) := ⟨fun e => take_eq T1.out hx hy e⟩
        have TX : Aside0 (xs[k] ≠ ys[k] → xs ≠ ys) := ⟨fun h e => h (by subst e; rfl)⟩
        clear h0 h1 m0 m1 q1 q2 q3 q4 F1 F2 F3 F4 hB
        generalize xs[k] = x at x0 x1 HS TN TX
        generalize ys[k] = y at y0 y1 HS TN TX
        clear hx hy
        have al := fun (p : Addr) (v : Value) (h : wr.cell? p = some v) => (World.cell?_alloc_lt wr (Obj.cells #[.slice U1 x.1.length u1, .slice U2 x.2.length u2] 115) p (World.block_lt_of_cell? _ _ h)).trans h
        have z0 := al _ _ y0
        have z1 := al _ _ y1
        clear al
        obtain ⟨b, hb⟩ : ∃ b, decide (x = y) = b := ⟨_, rfl⟩
        have HE := Aside0.mk hb
        rw [hb] at HS
        clear hb
        cases b with
        | true =>
          go_wp2_with (first | (go_at_call 81; with_reducible refine (HS.out _ (by repeat (first | exact B1.out | apply below_alloc))).mono ?_; rintro e w' ⟨rfl, hB⟩; have HBB := Aside0.mk (two_below B1.out hB); clear hB))
          exact ⟨⟨k + 1, by omega, by go_num, ⟨TN.out (of_decide_eq_true HE.out)⟩, HBB⟩, by simp [RowKit.intOf]; omega⟩
        | false =>
          go_wp2_with (first | (go_at_call 81; with_reducible refine (HS.out _ (by repeat (first | exact B1.out | apply below_alloc))).mono ?_; rintro e w' ⟨rfl, hB⟩; have HBB := Aside0.mk (two_below B1.out hB); clear hB))
          go_ret
          exact ⟨by rw [← HR.out, decide_eq_false (TX.out (of_decide_eq_false HE.out))]; rfl, HBB.out⟩
      · obtain rfl : k = n := by omega
        have g1 : decide ((k : Int) < (k : Int)) = false := decide_eq_false (by omega)
        have hT := T1.out
        rw [← HX.out, List.take_length, HX.out, HN.out, List.take_length] at hT
        have HT := Aside0.mk hT
        clear hT T1
        go_wp2
        go_ret
        exact ⟨by rw [← HR.out, decide_eq_true HT.out]; rfl, B1.out⟩
  · have e0 : (((xs.length : Nat) : Int) == ((ys.length : Nat) : Int)) = false := beq_eq_false_iff_ne.2 (by omega)
    rw [decide_eq_false (fun e : xs = ys => hn (by rw [e]))]
    generalize xs.length = n at e0 hn ⊢
    generalize ys.length = m at e0 hn ⊢
    go_enter Tryz.func80, Tryz.ntmps80
    go_wp2
    go_ret
    exact ⟨rfl, Below.refl _ _⟩
set_option maxHeartbeats 1000000 in
set_option maxRecDepth 400000 in
theorem SameC (xs ys : List Rl) (A0 A1 : Option Addr) (c0 c1 : Nat) (w : World) (C0 : Kd.C kRl w A0 xs.length xs) (C1 : Kd.C kRl w A1 ys.length ys) (hl : xs.length ≤ 1000000) (hl1 : ys.length ≤ 1000000) (hx : ∀ x ∈ xs, lenR x) (hy : ∀ y ∈ ys, lenR y) :
    Calls Tryz.prog 38 #[.slice A0 xs.length c0, .slice A1 ys.length c1] w fun e w' => e = .returned (.bool (decide (xs = ys))) ∧ Below w.heap.size w w' := by
  have HE := Aside0.mk (fun W (hW : Below w.heap.size w W) => eq_rules xs ys A0 A1 c0 c1 W (Kd.C_below C0 hW) (Kd.C_below C1 hW) hl hl1 hx hy)
  clear C0 C1 hx hy
  generalize decide (xs = ys) = r at HE ⊢
  generalize xs.length = n at HE ⊢
  generalize ys.length = m at HE ⊢
  go_enter Tryz.func38, Tryz.ntmps38
  go_wp2_with (first | (go_at_call 80; with_reducible refine (HE.out _ (Below.refl _ _)).mono ?_; rintro e w' ⟨rfl, hB⟩))
  go_ret
  exact ⟨rfl, hB⟩
end Go.Proofs.Sht
set_option linter.unusedVariables false
set_option linter.unusedSimpArgs false
namespace Go.Proofs.Val
open Go
theorem dw_id {p : UInt8 → Bool} : ∀ {l : List UInt8}, (∀ c ∈ l, p c = false) → l.dropWhile p = l
  | [], _ => rfl
  | c :: l, h => by
    have := h c (by simp)
    simp [List.dropWhile, this]
def plainB (c : UInt8) : Bool := !(decide (65 ≤ c.toNat) && decide (c.toNat ≤ 90)) && !(([32, 9, 10, 13] : List UInt8).contains c)
theorem plain_id {t : List UInt8} (h : ∀ c ∈ t, plainB c = true) : (Scn.lowV (Scn.trimV ⟨t.toArray⟩)).data.toList = t := by
  have h1 : ∀ c ∈ t, ([32, 9, 10, 13] : List UInt8).contains c = false := fun c hc => by
    have := h c hc
    simp only [plainB, Bool.and_eq_true, Bool.not_eq_true'] at this
    exact this.2
  have h2 : t.map Scn.lowB = t := by
    have : t.map Scn.lowB = t.map id := List.map_congr_left fun c hc => by
      have := h c hc
      simp only [plainB, Bool.and_eq_true, Bool.not_eq_true', Bool.and_eq_false_iff, decide_eq_false_iff_not] at this
      unfold Scn.lowB
      rw [if_neg (by rintro ⟨a, b⟩; rcases this.1 with h | h <;> contradiction)]
      rfl
    rw [this, List.map_id]
  show ((Lib.trimS t [32, 9, 10, 13]).map Scn.lowB) = t
  have e : Lib.trimS t [32, 9, 10, 13] = t := by
    unfold Lib.trimS Lib.trimLeftS Lib.trimRightS
    rw [dw_id (l := t.reverse) (fun c hc => h1 c (List.mem_reverse.1 hc)), List.reverse_reverse, dw_id h1]
  rw [e, h2]
theorem plain_dig {c : UInt8} (h : isDig c = true) : plainB c = true := by
  have : ∀ i : Fin 10, plainB (UInt8.ofNat (48 + i.val)) = true := by decide +kernel
  rw [isDig_iff] at h
  have hc := this ⟨c.toNat - 48, by omega⟩
  have e : UInt8.ofNat (48 + (c.toNat - 48)) = c := by rw [show 48 + (c.toNat - 48) = c.toNat by omega]; simp
  rwa [e] at hc
theorem plain_decL (n : Int) : ∀ c ∈ decL n, plainB c = true := fun c hc => by
  rcases decL_in n c hc with rfl | rfl | h
  · decide
  · decide
  · exact plain_dig h
theorem fin_kinds : ∀ p : Fin 27, ((rec0 p.val).length = true → (wordsP p.val).length = 0 ∧ (rec0 p.val).color = false) ∧ ((rec0 p.val).part = true → (wordsP p.val).length = 0 ∧ (rec0 p.val).color = false) ∧
    ((rec0 p.val).color = true → (wordsP p.val).length = 0 ∧ (rec0 p.val).auto = false ∧ (rec0 p.val).length = false) ∧
    ((rec0 p.val).number = true → (wordsP p.val).length = 0 ∧ (rec0 p.val).auto = false ∧ (rec0 p.val).length = false ∧ (rec0 p.val).color = false ∧ (rec0 p.val).part = false) := by decide +kernel
theorem fin_auto : ∀ p : Fin 27, (rec0 p.val).auto = true → anyP p.val autoW = ((1, 0), true) := by decide +kernel
theorem fin_words : ∀ p : Fin 27, ∀ i : Fin 4, i.val < (wordsP p.val).length → anyP p.val ((wordsP p.val).getD i.val ByteArray.empty).data.toList = ((5, (i.val : Int)), true) ∧ (∀ c ∈ ((wordsP p.val).getD i.val ByteArray.empty).data.toList, plainB c = true) := by decide +kernel
theorem fin_empty : ∀ p : Fin 27, (readL p.val []).2 = false := by decide +kernel
theorem nil_of {ws : List ByteArray} (h : ws.length = 0) : ws = [] := List.length_eq_zero_iff.1 h
theorem idx_nil (x : ByteArray) : ¬ 0 ≤ Lib.idxOfS [] x := by simp [Lib.idxOfS, Lib.idxFromS]
theorem suf_app (l s : List UInt8) : Lib.hasSuffix (l ++ s) s = true ∧ Lib.trimSuffix (l ++ s) s = l := by
  have h : Lib.hasSuffix (l ++ s) s = true := by unfold Lib.hasSuffix; rw [List.isSuffixOf_iff_suffix]; exact ⟨l, rfl⟩
  exact ⟨h, by unfold Lib.trimSuffix; rw [if_pos h]; simp⟩
theorem meas_app (l s : List UInt8) (k : Int) (h : numOk l = true) : measOk (l ++ s) s = true ∧ measV (l ++ s) s k = (k, numN l) := by
  have hm : measOk (l ++ s) s = true := by unfold measOk; rw [(suf_app l s).1, (suf_app l s).2, h]; rfl
  exact ⟨hm, by unfold measV; rw [if_pos hm, (suf_app l s).2]⟩
theorem suf_last {l s : List UInt8} {c d : UInt8} (h : c ≠ d) : Lib.hasSuffix (l ++ [c]) (s ++ [d]) = false := by
  unfold Lib.hasSuffix
  rw [Bool.eq_false_iff, Ne, List.isSuffixOf_iff_suffix]
  rintro ⟨t, ht⟩
  have := congrArg List.getLast? ht
  simp at this
  exact h this.symm
theorem hexD_hex {v : Nat} (h : v < 16) : isHex (hexD v) = true ∧ hx (hexD v) = v ∧ plainB (hexD v) = true := by
  have : ∀ i : Fin 16, isHex (hexD i.val) = true ∧ hx (hexD i.val) = i.val ∧ plainB (hexD i.val) = true := by decide +kernel
  exact this ⟨v, h⟩
theorem hexL_val {n : Nat} (h : n < 16777216) : (hexL n).all isHex = true ∧ (hexL n).length = 6 ∧ hexV 0 (hexL n) = n ∧ ∀ c ∈ hexL n, plainB c = true := by
  have q := fun m => hexD_hex (v := m % 16) (by omega)
  refine ⟨?_, rfl, ?_, ?_⟩
  · simp [hexL, (q _).1]
  · have h5 : (16 : Nat) ^ 5 = 1048576 := by decide
    have h4 : (16 : Nat) ^ 4 = 65536 := by decide
    have h3 : (16 : Nat) ^ 3 = 4096 := by decide
    have h2 : (16 : Nat) ^ 2 = 256 := by decide
    unfold hexV hexL
    simp only [List.foldl_cons, List.foldl_nil, (q _).2.1, h2, h3, h4, h5]
    omega
  · intro c hc
    simp only [hexL, List.mem_cons, List.mem_nil_iff, or_false] at hc
    rcases hc with rfl | rfl | rfl | rfl | rfl | rfl <;> exact (q _).2.2
theorem decL_ne (n : Int) (s m : List UInt8) (hm : ∀ c t, m = c :: t → c ≠ 45 ∧ isDig c = false) (h0 : m ≠ []) : decL n ++ s ≠ m := by
  obtain ⟨c, t, hc, hd⟩ := decL_front n
  intro e
  rw [hc, List.cons_append] at e
  obtain ⟨h1, h2⟩ := hm c (t ++ s) e.symm
  rcases hd with rfl | hd
  · exact h1 rfl
  · rw [hd] at h2; cases h2
/-- WHAT IS PRINTED IS READ AS WHAT IT WAS -/
theorem back_any (p : Nat) (hp : p < 27) (k n : Int) (h : mayV p k n = true) : anyP p (printL p k n) = ((k, n), true) ∧ ∀ c ∈ printL p k n, plainB c = true := by
  obtain ⟨fl, fp, fc, fn⟩ := fin_kinds ⟨p, hp⟩
  simp only at fl fp fc fn
  have hlow := low_ge p
  have hP : printL p k n = (if k = 1 then autoW else if k = 4 then 35 :: hexL n.toNat else if k = 5 then ((wordsP p).getD n.toNat ByteArray.empty).data.toList
      else if k = 2 then decL n ++ [112, 120] else if k = 3 then decL n ++ [37] else decL n) := by unfold printL; rw [if_pos h]
  rcases may_kinds h with ⟨rfl, rfl, ha⟩ | ⟨rfl, h1, h2, ha⟩ | ⟨rfl, h1, h2, ha⟩ | ⟨rfl, h1, h2, ha⟩ | ⟨rfl, h1, h2⟩ | ⟨rfl, h1, h2, ha⟩
  · rw [if_pos rfl] at hP
    rw [hP]
    exact ⟨fin_auto ⟨p, hp⟩ ha, by decide⟩
  · rw [if_neg (by omega), if_neg (by omega), if_neg (by omega), if_pos rfl] at hP
    obtain ⟨r1, r2⟩ := decL_read n (by omega) h2
    obtain ⟨m1, m2⟩ := meas_app (decL n) [112, 120] 2 r1
    rw [hP]
    refine ⟨?_, fun c hc => ?_⟩
    · unfold anyP anyR
      rw [nil_of (fl ha).1, if_neg (idx_nil _), (fl ha).2, if_neg (by rw [decide_eq_false (decL_ne n _ _ (by intro c t e; cases e; decide) (by decide))]; simp), if_neg, if_neg (by simp), if_pos (by rw [ha, m1]; rfl), m2, r2]
      rw [decide_eq_false, Bool.and_false]
      · simp
      · intro e
        have := congrArg List.getLast? e
        simp at this
    · rcases List.mem_append.1 hc with hc | hc
      · exact plain_decL n c hc
      · simp at hc; rcases hc with rfl | rfl <;> decide
  · rw [if_neg (by omega), if_neg (by omega), if_neg (by omega), if_neg (by omega), if_pos rfl] at hP
    obtain ⟨r1, r2⟩ := decL_read n (by omega) h2
    obtain ⟨m1, m2⟩ := meas_app (decL n) [37] 3 r1
    have hx : measOk (decL n ++ [37]) [112, 120] = false := by
      unfold measOk
      rw [show ([112, 120] : List UInt8) = [112] ++ [120] from rfl, suf_last (by decide)]; rfl
    rw [hP]
    refine ⟨?_, fun c hc => ?_⟩
    · unfold anyP anyR
      rw [nil_of (fp ha).1, if_neg (idx_nil _), (fp ha).2, if_neg (by rw [decide_eq_false (decL_ne n _ _ (by intro c t e; cases e; decide) (by decide))]; simp), if_neg, if_neg (by simp), if_neg (by rw [hx]; simp), if_pos ha, m1, m2, r2]
      rw [decide_eq_false, Bool.and_false]
      · simp
      · intro e
        have := congrArg List.getLast? e
        simp at this
    · rcases List.mem_append.1 hc with hc | hc
      · exact plain_decL n c hc
      · simp at hc; subst hc; decide
  · rw [if_neg (by omega), if_pos rfl] at hP
    obtain ⟨m, rfl⟩ : ∃ m : Nat, n = (m : Int) := ⟨n.toNat, by omega⟩
    rw [Int.toNat_natCast] at hP
    obtain ⟨q1, q2, q3, q4⟩ := hexL_val (n := m) (by omega)
    have hpre : Lib.hasPrefix (35 :: hexL m) [35] = true := by simp [Lib.hasPrefix, List.isPrefixOf]
    have htr : Lib.trimPrefix (35 :: hexL m) [35] = hexL m := by unfold Lib.trimPrefix; rw [if_pos hpre]; rfl
    have hok : hexOk (35 :: hexL m) = true := by unfold hexOk; rw [hpre, htr, q1, q2]; rfl
    have hnam : namC (35 :: hexL m) = none := by
      unfold namC
      rw [if_neg (by intro e; cases e), if_neg (by intro e; cases e), if_neg (by intro e; cases e), if_neg (by intro e; cases e), if_neg (by intro e; cases e)]
    rw [hP]
    refine ⟨?_, fun c hc => ?_⟩
    · unfold anyP anyR
      rw [nil_of (fc ha).1, if_neg (idx_nil _), (fc ha).2.1, (fc ha).2.2, if_neg (by simp), if_neg (by simp), if_pos ha]
      unfold colN colOk
      rw [hnam, hok, htr, q3]
      rfl
    · rcases List.mem_cons.1 hc with rfl | hc
      · decide
      · exact q4 c hc
  · rw [if_neg (by omega), if_neg (by omega), if_pos rfl] at hP
    obtain ⟨m, rfl⟩ : ∃ m : Nat, n = (m : Int) := ⟨n.toNat, by omega⟩
    rw [Int.toNat_natCast] at hP
    rw [wordsP_len p (by omega)] at h2
    have := wordsP_le p
    rw [hP]
    exact fin_words ⟨p, hp⟩ ⟨m, by omega⟩ (by show m < (wordsP p).length; omega)
  · rw [if_neg (by omega), if_neg (by omega), if_neg (by omega), if_neg (by omega), if_neg (by omega)] at hP
    obtain ⟨r1, r2⟩ := decL_read n (by omega) h2
    obtain ⟨m1, m2⟩ := meas_app (decL n) [] 6 r1
    rw [List.append_nil] at m1 m2
    rw [hP]
    obtain ⟨a1, a2, a3, a4, a5⟩ := fn ha
    refine ⟨?_, plain_decL n⟩
    unfold anyP anyR
    rw [nil_of a1, if_neg (idx_nil _), a2, a3, a4, a5, if_neg (by simp), if_neg (by simp), if_neg (by simp), if_neg (by simp), if_neg (by simp), if_pos ha, m1, m2, r2]
theorem cl_lt (p : Int) : cl p < 27 := by have := cl_le p; omega
theorem back_read (p k n : Int) (h : mayV (cl p) k n = true) : readV p (printV p k n) = ((k, n), true) := by
  obtain ⟨h1, h2⟩ := back_any (cl p) (cl_lt p) k n h
  unfold readV printV readL
  rw [plain_id h2, h1]
  simp only
  rw [h]
  rfl
theorem print_size (p k n : Int) : (printV p k n).size < 4294967281 := by
  show (printL (cl p) k n).length < _
  by_cases h : mayV (cl p) k n = true
  · have hlow := low_ge (cl p)
    have hP : printL (cl p) k n = (if k = 1 then autoW else if k = 4 then 35 :: hexL n.toNat else if k = 5 then ((wordsP (cl p)).getD n.toNat ByteArray.empty).data.toList
      else if k = 2 then decL n ++ [112, 120] else if k = 3 then decL n ++ [37] else decL n) := by unfold printL; rw [if_pos h]
    have fw : ∀ p : Fin 27, ∀ i : Fin 4, ((wordsP p.val).getD i.val ByteArray.empty).data.toList.length < 4294967281 := by decide +kernel
    rcases may_kinds h with ⟨rfl, rfl, ha⟩ | ⟨rfl, h1, h2, ha⟩ | ⟨rfl, h1, h2, ha⟩ | ⟨rfl, h1, h2, ha⟩ | ⟨rfl, h1, h2⟩ | ⟨rfl, h1, h2, ha⟩
    · rw [if_pos rfl] at hP; rw [hP]; decide
    · have := decL_len n (by omega) h2
      rw [if_neg (by omega), if_neg (by omega), if_neg (by omega), if_pos rfl] at hP; rw [hP, List.length_append]; simp; omega
    · have := decL_len n (by omega) h2
      rw [if_neg (by omega), if_neg (by omega), if_neg (by omega), if_neg (by omega), if_pos rfl] at hP; rw [hP, List.length_append]; simp; omega
    · rw [if_neg (by omega), if_pos rfl] at hP; rw [hP]; simp [hexL]
    · rw [if_neg (by omega), if_neg (by omega), if_pos rfl] at hP
      rw [wordsP_len _ (cl_le p)] at h2
      have := wordsP_le (cl p)
      rw [hP]
      exact fw ⟨cl p, cl_lt p⟩ ⟨n.toNat, by omega⟩
    · have := decL_len n (by omega) h2
      rw [if_neg (by omega), if_neg (by omega), if_neg (by omega), if_neg (by omega), if_neg (by omega)] at hP; rw [hP]; omega
  · unfold printL; rw [if_neg h]; decide
end Go.Proofs.Val
set_option linter.unusedVariables false
set_option linter.unusedSimpArgs false
namespace Go.Proofs.Sht
open Go.RowKit Go.Lib Go.Proofs.YtolfpgccebdlpaaGreatDoorW.PrintWords Go.Proofs.YtolfpgccebdlpaaGreatDoorW.PrintLast Go.Proofs.YtolfpgccebdlpaaGreatDoorW.PrintMore Go.Proofs.Tok
def nameL (nm pv : ByteArray) : List UInt8 := 32 :: (nm.data.toList ++ 58 :: 32 :: pv.data.toList)
def nameD (d : Dc) : List UInt8 := 32 :: ((Val.nameP d.1).data.toList ++ 58 :: 32 :: (Val.printV d.1 d.2.1 d.2.2.1).data.toList)
def declL (d : Dc) : List UInt8 := nameD d ++ ((if d.2.2.2 = true then 32 :: strongW else []) ++ [59])
def selsN (ss : List Sel) : Nat → List UInt8
 | 0 => []
 | k + 1 => selsN ss k ++ ((if k = 0 then [] else [44, 32]) ++ (printV (ss.getD k zSel).1 (ss.getD k zSel).2).data.toList)
def declsN (ds : List Dc) (k : Nat) : List UInt8 := (ds.take k).flatMap declL
def ruleL (r : Rl) : List UInt8 := selsN r.1 r.1.length ++ (32 :: 123 :: (r.2.flatMap declL ++ [32, 125, 10]))
def rulesN (l : List Rl) (k : Nat) : List UInt8 := (l.take k).flatMap ruleL
def printR (l : List Rl) : ByteArray := if mayL l = true then ⟨(l.flatMap ruleL).toArray⟩ else ⟨#[]⟩
def txtS (x : Sel) : Prop := x.1.length ≤ 1000 ∧ x.2.length ≤ 1000 ∧ ∀ p ∈ x.1, txtX p
def txtR (r : Rl) : Prop := ∀ x ∈ r.1, txtS x
theorem sel_len {x : Sel} (hf : fitS x) (ht : txtS x) : (printV x.1 x.2).data.toList.length ≤ 1000100000 := by
 unfold printV
 split
 ·have h := print_len (bs := x.2) ht.2.2 x.1.length (Nat.le_refl _)
  have := ht.1
  simp
  omega
 ·simp
theorem selsN_len {ss : List Sel} (hf : ∀ x ∈ ss, fitS x) (ht : ∀ x ∈ ss, txtS x) : ∀ k, k ≤ ss.length → (selsN ss k).length ≤ k * 1000100002
 | 0, _ => by simp [selsN]
 | k + 1, hk => by
  have ih := selsN_len hf ht k (by omega)
  have hg : ss.getD k zSel = ss[k] := by rw [List.getD, List.getElem?_eq_getElem (show k < ss.length by omega)]; rfl
  have hm := List.getElem_mem (show k < ss.length by omega)
  have h1 := sel_len (hf _ hm) (ht _ hm)
  have h2 : ((if k = 0 then [] else [44, 32]) : List UInt8).length ≤ 2 := by split <;> simp
  rw [selsN, hg]
  simp only [List.length_append]
  omega
theorem name_len (p : Int) : (Val.nameP p).data.toList.length ≤ 1000 := by
 have h : ∀ q : Fin 27, (Val.rec0 q.val).name.data.toList.length ≤ 1000 := by decide +kernel
 exact h ⟨Val.cl p, by have := Val.cl_le p; omega⟩
theorem print_sz (p k n : Int) : (Val.printV p k n).data.toList.length ≤ 4294967281 := by
 have := Val.print_size p k n
 rw [Lib.size_eq] at this
 omega
theorem nameD_len (d : Dc) : (nameD d).length ≤ 4294968300 := by
 have h1 := name_len d.1
 have h2 := print_sz d.1 d.2.1 d.2.2.1
 unfold nameD
 simp only [List.length_append, List.length_cons]
 omega
theorem declL_len (d : Dc) : (declL d).length ≤ 4294968400 := by
 have h1 := nameD_len d
 unfold declL
 have h2 : ((if d.2.2.2 = true then 32 :: strongW else []) : List UInt8).length ≤ 11 := by split <;> simp [strongW]
 simp only [List.length_append, List.length_cons, List.length_nil]
 omega
theorem flat_len {α : Type} {f : α → List UInt8} {b : Nat} : ∀ l : List α, (∀ x ∈ l, (f x).length ≤ b) → (l.flatMap f).length ≤ l.length * b
 | [], _ => by simp
 | x :: l, h => by
  have ih := flat_len l (fun y hy => h y (by simp [hy]))
  have h0 := h x (by simp)
  rw [List.flatMap_cons, List.length_append, List.length_cons, Nat.succ_mul]
  omega
theorem ruleL_len {r : Rl} (hm : mayR r = true) (hf : fitR r) (ht : txtR r) : (ruleL r).length ≤ 300000000000 := by
 unfold mayR at hm
 simp only [Bool.and_eq_true, decide_eq_true_eq] at hm
 have h1 := selsN_len hf.2.2 ht r.1.length (Nat.le_refl _)
 have h2 := flat_len r.2 (f := declL) (fun d _ => declL_len d)
 have h3 := hm.2.1
 have h4 := hm.2.2.1
 unfold ruleL
 simp only [List.length_append, List.length_cons, List.length_nil]
 omega
theorem flat_next {α : Type} {f : α → List UInt8} {l : List α} {k : Nat} (h : k < l.length) : (l.take (k + 1)).flatMap f = (l.take k).flatMap f ++ f l[k] := by
 rw [List.take_succ_eq_append_getElem h, List.flatMap_append, List.flatMap_cons, List.flatMap_nil, List.append_nil]
theorem step3 {W W' w4 : World} (hw : W' = W ∨ W' = W.drew) (hB : Below W'.heap.size W' w4) : Below W.heap.size W w4 := by
 rcases hw with rfl | rfl
 ·exact hB
 ·exact (below_drew (Below.refl _ _)).trans hB
set_option maxHeartbeats 4000000 in
set_option maxRecDepth 400000 in
theorem PrintC (xs : List Rl) (A : Option Addr) (c : Nat) (w : World) (C : Kd.C kRl w A xs.length xs) (hl : xs.length ≤ 8796093022208) (hf : ∀ r ∈ xs, fitR r) (ht : mayL xs = true → ∀ r ∈ xs, txtR r) (hT : Val.Tbs w) :
  Calls Tryz.prog 36 #[.slice A xs.length c] w fun e w' => e = .returned (.string (printR xs)) ∧ Below w.heap.size w w' := by
 have hu1 := Tryz.underlying115
 have hu2 := Tryz.underlying25
 have hu3 := Tryz.underlying111
 have hu4 := Tryz.underlying109
 have HM := Aside0.mk (MayC xs A c w C hl hf)
 have D0 := Aside0.mk C
 have HF := Aside0.mk hf
 have HX0 := Aside0.mk ht
 have TB := Aside0.mk hT
 clear C hf ht hT
 cases hm : mayL xs with
 | false =>
  have HV : Aside0 (printR xs = ⟨#[]⟩) := ⟨by unfold printR; rw [hm]; rfl⟩
  rw [hm] at HM
  clear hm
  go_enter Tryz.func36, Tryz.ntmps36
  go_wp2_with (first | (go_at_call 34; with_reducible refine HM.out.mono ?_; rintro e w' ⟨rfl, hB⟩))
  go_ret
  exact ⟨by rw [HV.out]; rfl, hB⟩
 | true =>
  have HV : Aside0 (printR xs = ⟨(xs.flatMap ruleL).toArray⟩) := ⟨by unfold printR; rw [hm]; rfl⟩
  have HX := Aside0.mk (HX0.out hm)
  clear HX0
  rw [hm] at HM
  have hm2 : (∀ r ∈ xs, mayR r = true) ∧ xs.length ≤ 40 := by
   unfold mayL at hm
   rw [Bool.and_eq_true] at hm
   exact ⟨List.all_eq_true.1 hm.1, of_decide_eq_true hm.2⟩
  obtain ⟨hm3, h40⟩ := hm2
  have MR := Aside0.mk hm3
  clear hm hm3
  go_enter Tryz.func36, Tryz.ntmps36
  go_wp2_with (first | (go_at_call 34; with_reducible refine HM.out.mono ?_; rintro e w1 ⟨rfl, hB⟩; have B1 := Aside0.mk hB; clear hB))
  go_loopw [5, 6, 7, 9, 15, 16, 17, 18, 19, 20, 21, 22, 23, 24, 25, 26, 27, 28, 29, 30, 31, 32, 33, 34, 35, 36, 37, 38, 39, 40, 41, 42, 43, 44, 45, 46, 47, 48, 49, 50, 51, 52, 53, 54, 55, 56, 57, 58, 59, 60] (fun _ _ _ _ i _ _ _ _ _ _ _ _ _ _ _ _ _ _ _ _ _ _ _ _ _ _ _ _ _ _ _ _ _ _ _ _ _ _ _ _ _ _ _ _ _ _ _ _ _ wr => ∃ k : Nat, k ≤ xs.length ∧ i = .int .i64 k ∧ Aside0 (BldF w1.heap.size (rulesN xs k) wr) ∧ Aside0 (Below w1.heap.size w1 wr)) (fun _ _ _ _ i _ _ _ _ _ _ _ _ _ _ _ _ _ _ _ _ _ _ _ _ _ _ _ _ _ _ _ _ _ _ _ _ _ _ _ _ _ _ _ _ _ _ _ _ _ _ => xs.length - (RowKit.intOf i).toNat)
  case atStart => exact ⟨0, Nat.zero_le _, rfl, ⟨bldF_fresh w1⟩, ⟨below_alloc (Below.refl _ _) _⟩⟩
  case round =>
   obtain ⟨k, hk, rfl, FR, BR⟩ := hrel
   obtain ⟨wo, rfl⟩ : ∃ x, x = wr := ⟨_, rfl⟩
   have s1 := B1.out.size
   have BW := Aside0.mk (below_then B1.out B1.out.size BR.out)
   by_cases hlt : k < xs.length
   ·have g1 : decide ((k : Int) < (xs.length : Int)) = true := decide_eq_true (by omega)
    obtain ⟨ad, A1, c1, A2, c2, ea, h0, h1, q1, C1, q2, C2⟩ := at_two D0.out k hlt hlt
    subst ea
    have hB := fun (p : Addr) (v : Value) (h : w.cell? p = some v) => (BW.out.cell (World.block_lt_of_cell? _ _ h)).trans h
    have x0 := hB _ _ h0
    have x1 := hB _ _ h1
    have hmem := List.getElem_mem hlt
    have hmr := MR.out _ hmem
    have hfr := HF.out _ hmem
    have htr := HX.out _ hmem
    have RL : Aside0 ((rulesN xs k).length ≤ k * 300000000000) := ⟨by
     have q := flat_len (xs.take k) (f := ruleL) (b := 300000000000) (fun r hr => ruleL_len (MR.out r (List.mem_of_mem_take hr)) (HF.out r (List.mem_of_mem_take hr)) (HX.out r (List.mem_of_mem_take hr)))
     rw [List.length_take, Nat.min_eq_left hk] at q
     exact q⟩
    have NX : Aside0 (rulesN xs (k + 1) = rulesN xs k ++ ruleL xs[k]) := ⟨flat_next hlt⟩
    have hcnt : xs[k].1.length ≤ 20 ∧ xs[k].2.length ≤ 60 := by
     unfold mayR at hmr
     simp only [Bool.and_eq_true, decide_eq_true_eq] at hmr
     exact ⟨hmr.2.1, hmr.2.2.1⟩
    clear h0 h1 q1 q2 hB hmr
    have EC1 := Aside0.mk C1
    have EC2 := Aside0.mk C2
    clear C1 C2
    generalize xs[k] = r at x0 x1 hfr htr NX hcnt EC1 EC2 hmem
    obtain ⟨ss, ds⟩ := r
    dsimp only at x0 x1 EC1 EC2 hcnt
    obtain ⟨hc20, hc60⟩ := hcnt
    have FF := Aside0.mk hfr.2.2
    have TT := Aside0.mk htr
    clear hfr htr hmem
    have hlt1 : w1.heap.size < wo.heap.size := FR.out.2
    have BB := Aside0.mk (below_alloc BR.out (Obj.cells #[.slice A1 ss.length c1, .slice A2 ds.length c2] 115))
    have FA := Aside0.mk (bldF_keep FR.out (below_alloc (Below.refl wo.heap.size wo) (Obj.cells #[.slice A1 ss.length c1, .slice A2 ds.length c2] 115)))
    have HA := Aside0.mk (heap_alloc_new wo (Obj.cells #[.slice A1 ss.length c1, .slice A2 ds.length c2] 115))
    go_wp2
    go_loopw [6, 7, 22, 23, 24, 25, 26, 27, 28, 29, 30, 31, 32, 33] (fun _ _ i _ _ _ _ _ _ _ _ _ _ _ wx => ∃ j : Nat, j ≤ ss.length ∧ i = .int .i64 j ∧ Aside0 (BldF w1.heap.size (rulesN xs k ++ selsN ss j) wx) ∧ Aside0 (Below w1.heap.size w1 wx) ∧ Aside0 (wx.heap[wo.heap.size]? = some (.cells #[.slice A1 ss.length c1, .slice A2 ds.length c2] 115))) (fun _ _ i _ _ _ _ _ _ _ _ _ _ _ _ => ss.length - (RowKit.intOf i).toNat)
    case atStart => exact ⟨0, Nat.zero_le _, rfl, ⟨by have := FA.out; simpa [selsN] using this⟩, BB, HA⟩
    case round =>
     clear x0 x1 FA BB HA
     obtain ⟨j, hj, rfl, FX, BX, HH⟩ := hrel
     have BWX := Aside0.mk (below_then B1.out B1.out.size BX.out)
     have hlt2 : wo.heap.size < wr.heap.size := heap_lt HH.out
     by_cases hjl : j < ss.length
     ·have g2 : decide ((j : Int) < (ss.length : Int)) = true := decide_eq_true (by omega)
      obtain ⟨b0, P1, p1, P2, p2, eb, m0, m1, q1, G1, q2, G2⟩ := at_two EC1.out j hjl hjl
      subst eb
      have hB := fun (p : Addr) (v : Value) (h : w.cell? p = some v) => (BWX.out.cell (World.block_lt_of_cell? _ _ h)).trans h
      have y0 := hB _ _ m0
      have y1 := hB _ _ m1
      have hmem := List.getElem_mem hjl
      have HP := Aside0.mk (fun W (hW : Below w.heap.size w W) => Print_any ss[j].1 ss[j].2 P1 P2 p1 p2 W (Kd.C_below G1 hW) (Kd.C_below G2 hW) (TT.out _ hmem).1 (TT.out _ hmem).2.1 (FF.out _ hmem).2.2 (TT.out _ hmem).2.2)
      have PL := Aside0.mk (sel_len (FF.out _ hmem) (TT.out _ hmem))
      have SL := Aside0.mk (selsN_len FF.out TT.out j hj)
      have SN : Aside0 (selsN ss (j + 1) = selsN ss j ++ ((if j = 0 then [] else [44, 32]) ++ (printV ss[j].1 ss[j].2).data.toList)) := ⟨by rw [selsN, List.getD, List.getElem?_eq_getElem hjl]; rfl⟩
      clear m0 m1 q1 q2 G1 G2 hB hmem
      generalize ss[j] = x at y0 y1 HP PL SN
      have FXA := Aside0.mk (bldF_keep FX.out (below_alloc (Below.refl wr.heap.size wr) (Obj.cells #[.slice P1 x.1.length p1, .slice P2 x.2.length p2] 25)))
      have BXA := Aside0.mk (below_alloc BX.out (Obj.cells #[.slice P1 x.1.length p1, .slice P2 x.2.length p2] 25))
      have BWA := Aside0.mk (below_alloc BWX.out (Obj.cells #[.slice P1 x.1.length p1, .slice P2 x.2.length p2] 25))
      have HHA := Aside0.mk (((below_alloc (Below.refl wr.heap.size wr) (Obj.cells #[.slice P1 x.1.length p1, .slice P2 x.2.length p2] 25)).block _ hlt2).trans HH.out)
      have sza := alloc_size wr (Obj.cells #[.slice P1 x.1.length p1, .slice P2 x.2.length p2] 25)
      have SZA := Aside0.mk sza
      clear sza
      by_cases hj0 : j = 0
      ·have e0 : decide ((0 : Int) < (j : Int)) = false := decide_eq_false (by omega)
       have e1 : (0 < j) = False := eq_false (by omega)
       have e2 : decide (0 < j) = false := decide_eq_false (by omega)
       have HJ := Aside0.mk hj0
       clear hj0
       as_aux_lemma =>
       go_wp2_with (first | (go_at_call 19; with_reducible refine (HP.out _ BWA.out).mono ?_; rintro e w4 ⟨rfl, hB⟩; have B4 := Aside0.mk hB; clear hB) | (go_at_call 56; with_reducible refine (bldF_write w1.heap.size _ _ _ (bldF_keep FXA.out B4.out) (by have := RL.out; have := PL.out; have := SL.out; rw [Lib.size_eq]; simp only [List.length_append]; omega)).mono ?_; rintro e w5 ⟨rfl, hF, hB, hO⟩; have F5 := Aside0.mk hF; have B5 := Aside0.mk hB; have H5 := Aside0.mk (others_cell hO ((B4.out.block _ (by rw [SZA.out]; omega)).trans HHA.out) (Nat.ne_of_gt hlt1) (by decide)); clear hF hB hO))
       refine ⟨⟨j + 1, by omega, by go_num, ⟨?_⟩, ⟨(below_then BXA.out BXA.out.size B4.out).trans B5.out⟩, H5⟩, by simp [RowKit.intOf]; omega⟩
       have := F5.out
       rw [SN.out, if_pos HJ.out, List.nil_append, ← List.append_assoc]
       exact this
      ·have e0 : decide ((0 : Int) < (j : Int)) = true := decide_eq_true (by omega)
       have e1 : (0 < j) = True := eq_true (by omega)
       have e2 : decide (0 < j) = true := decide_eq_true (by omega)
       have HJ := Aside0.mk hj0
       have hxb : wr.heap.size ≠ w1.heap.size := by omega
       clear hj0
       as_aux_lemma =>
       go_wp2_with (first | (go_at_call 56; with_reducible refine (bldF_write w1.heap.size _ _ _ FXA.out (by have := RL.out; have := SL.out; have : ByteArray.size ⟨#[44, 32]⟩ = 2 := rfl; simp only [List.length_append]; omega)).mono ?_; rintro e w3 ⟨rfl, hF, hB, hO⟩; have F3 := Aside0.mk hF; have B3 := Aside0.mk (BXA.out.trans hB); have hy := others_cell hO (heap_alloc_new wr _) hxb (by decide); have H3 := Aside0.mk (others_cell hO HHA.out (Nat.ne_of_gt hlt1) (by decide)); have BW3 := Aside0.mk (below_then B1.out s1 B3.out); have t0 : w3.cell? ⟨wr.heap.size, 0, none⟩ = some (.slice P1 x.1.length p1) := (cell_of_block hy 0).trans rfl; have t1 : w3.cell? ⟨wr.heap.size, 1, none⟩ = some (.slice P2 x.2.length p2) := (cell_of_block hy 1).trans rfl; have sz3 := hB.size; clear hF hB hO hy FXA) | (go_at_call 19; with_reducible refine (HP.out _ BW3.out).mono ?_; rintro e w4 ⟨rfl, hB⟩; have B4 := Aside0.mk hB; clear hB) | (go_at_call 56; with_reducible refine (bldF_write w1.heap.size _ _ _ (bldF_keep F3.out B4.out) (by have := RL.out; have := PL.out; have := SL.out; rw [Lib.size_eq]; simp only [List.length_append]; have : (⟨#[44, 32]⟩ : ByteArray).data.toList.length = 2 := rfl; have : ([44, 32] : List UInt8).length = 2 := rfl; have : ([44, 32] : List UInt8).length = 2 := rfl; omega)).mono ?_; rintro e w5 ⟨rfl, hF, hB, hO⟩; have F5 := Aside0.mk hF; have B5 := Aside0.mk hB; have H5 := Aside0.mk (others_cell hO ((B4.out.block _ (by rw [SZA.out] at sz3; omega)).trans H3.out) (Nat.ne_of_gt hlt1) (by decide)); clear hF hB hO))
       refine ⟨⟨j + 1, by omega, by go_num, ⟨?_⟩, ⟨(below_then B3.out B3.out.size B4.out).trans B5.out⟩, H5⟩, by simp [RowKit.intOf]; omega⟩
       have := F5.out
       rw [SN.out, if_neg HJ.out]
       simpa [List.append_assoc] using this
     ·obtain rfl : j = ss.length := by omega
      have g2 : decide ((ss.length : Int) < (ss.length : Int)) = false := decide_eq_false (by omega)
      have SL := Aside0.mk (selsN_len FF.out TT.out ss.length (Nat.le_refl _))
      go_wp2_with (first | (go_at_call 56; with_reducible refine (bldF_write w1.heap.size _ _ _ FX.out (by have := RL.out; have := SL.out; have : ByteArray.size ⟨#[32, 123]⟩ = 2 := rfl; simp only [List.length_append]; omega)).mono ?_; rintro e w3 ⟨rfl, hF, hB, hO⟩; have F3 := Aside0.mk hF; have B3 := Aside0.mk (BX.out.trans hB); have hy := others_cell hO HH.out (Nat.ne_of_gt hlt1) (by decide); have y1 : w3.cell? ⟨wo.heap.size, 1, none⟩ = some (.slice A2 ds.length c2) := (cell_of_block hy 1).trans rfl; clear hF hB hO hy))
      go_loopw [9, 38, 39, 40, 41, 42, 43, 44, 45, 46, 47, 48, 49, 50, 51, 52, 53, 54, 55, 56, 57, 58] (fun _ i _ _ _ _ _ _ _ _ _ _ _ _ _ _ _ _ _ _ _ _ wr => ∃ m : Nat, m ≤ ds.length ∧ i = .int .i64 m ∧ Aside0 (BldF w1.heap.size ((rulesN xs k ++ selsN ss ss.length ++ [32, 123]) ++ declsN ds m) wr) ∧ Aside0 (Below w1.heap.size w1 wr)) (fun _ i _ _ _ _ _ _ _ _ _ _ _ _ _ _ _ _ _ _ _ _ _ => ds.length - (RowKit.intOf i).toNat)
      case atStart => exact ⟨0, Nat.zero_le _, rfl, ⟨by have := F3.out; simpa [declsN] using this⟩, B3⟩
      case round =>
       clear F3 B3 y1 FX BX HH BWX
       obtain ⟨m, hm, rfl, FY, BY⟩ := hrel
       have BWY := Aside0.mk (below_then B1.out s1 BY.out)
       by_cases hml : m < ds.length
       ·have g3 : decide ((m : Int) < (ds.length : Int)) = true := decide_eq_true (by omega)
        obtain ⟨b0, eb, m0, m1, m2, m3⟩ := at_Dc EC2.out m hml hml
        subst eb
        have hB := fun (p : Addr) (v : Value) (h : w.cell? p = some v) => (BWY.out.cell (World.block_lt_of_cell? _ _ h)).trans h
        have y0 := hB _ _ m0
        have y1 := hB _ _ m1
        have y2 := hB _ _ m2
        have y3 := hB _ _ m3
        have DN : Aside0 (declsN ds (m + 1) = declsN ds m ++ declL ds[m]) := ⟨flat_next hml⟩
        have DL : Aside0 ((declsN ds m).length ≤ m * 4294968400) := ⟨by
         have q := flat_len (ds.take m) (f := declL) (fun d _ => declL_len d)
         rw [List.length_take, Nat.min_eq_left hm] at q
         exact q⟩
        clear m0 m1 m2 m3 hB
        generalize ds[m] = d at y0 y1 y2 y3 DN
        obtain ⟨d1, d2, d3, d4⟩ := d
        dsimp only at y0 y1 y2 y3
        have hN := fun W => Val.nameC d1 W
        have hP := fun W hT => Val.printC d1 d2 d3 W hT
        have NL := name_len d1
        have VL := print_sz d1 d2 d3
        rw [← Lib.size_eq] at NL VL
        have DE : Aside0 (declL (d1, d2, d3, d4) = (32 :: ((Val.nameP d1).data.toList ++ 58 :: 32 :: (Val.printV d1 d2 d3).data.toList)) ++ ((if d4 = true then 32 :: strongW else []) ++ [59])) := ⟨rfl⟩
        generalize Val.nameP d1 = nm at hN NL DE
        generalize Val.printV d1 d2 d3 = pv at hP VL DE
        have hq1 : ¬ (9223372036854775807 < 1 + nm.size) := by omega
        have hq2 : ¬ (9223372036854775807 < 1 + nm.size + 2) := by omega
        have hq3 : ¬ (9223372036854775807 < 1 + nm.size + 2 + pv.size) := by omega
        have FA3 := Aside0.mk (bldF_keep FY.out (below_alloc (Below.refl wr.heap.size wr) (Obj.cells #[.int .i64 d1, .int .i64 d2, .int .i64 d3, .bool d4] 111)))
        have BA3 := Aside0.mk (below_alloc BY.out (Obj.cells #[.int .i64 d1, .int .i64 d2, .int .i64 d3, .bool d4] 111))
        have HA3 := Aside0.mk (heap_alloc_new wr (Obj.cells #[.int .i64 d1, .int .i64 d2, .int .i64 d3, .bool d4] 111))
        have hgb : w1.heap.size < wr.heap.size := FY.out.2
        obtain ⟨g, hg⟩ : ∃ g, wr.heap.size = g := ⟨_, rfl⟩
        have sz3 := alloc_size wr (Obj.cells #[.int .i64 d1, .int .i64 d2, .int .i64 d3, .bool d4] 111)
        have HG := Aside0.mk hg
        have SZ3 := Aside0.mk sz3
        clear sz3
        obtain ⟨WA, hWA⟩ : ∃ W, wr.alloc (Obj.cells #[.int .i64 d1, .int .i64 d2, .int .i64 d3, .bool d4] 111) = W := ⟨_, rfl⟩
        have EA := Aside0.mk hWA
        rw [hWA] at FA3 BA3 HA3 SZ3
        rw [hg] at HA3 SZ3 hgb
        clear hWA hg
        have hK : ∀ W : World, W.heap[g]? = some (.cells #[.int .i64 d1, .int .i64 d2, .int .i64 d3, .bool d4] 111) → W.cell? ⟨g, 0, none⟩ = some (.int .i64 d1) ∧ W.cell? ⟨g, 1, none⟩ = some (.int .i64 d2) ∧ W.cell? ⟨g, 2, none⟩ = some (.int .i64 d3) ∧ W.cell? ⟨g, 3, none⟩ = some (.bool d4) := fun W h => ⟨(cell_of_block h 0).trans rfl, (cell_of_block h 1).trans rfl, (cell_of_block h 2).trans rfl, (cell_of_block h 3).trans rfl⟩
        go_upto_region 18 with (fail)
        rw [HG.out, EA.out]
        obtain ⟨c0, c1', c2', c3⟩ := hK WA HA3.out
        have HK := Aside0.mk hK
        clear hK
        go_region_held3 (fun W => W.cell? ⟨g, 0, none⟩ = some (.int .i64 d1) ∧ W.cell? ⟨g, 1, none⟩ = some (.int .i64 d2) ∧ W.cell? ⟨g, 2, none⟩ = some (.int .i64 d3) ∧ W.cell? ⟨g, 3, none⟩ = some (.bool d4))
         (first | exact HK.out _ Q6.out | exact HK.out _ Q5.out | exact HK.out _ Q4.out | exact HK.out _ HA3.out | go_keep)
         ((first
         | (go_at_call 76; refine (hN _).mono ?_; rintro e w4 ⟨rfl, hB0⟩; have hB := step3 (W := WA) (by first | exact Or.inl rfl | exact Or.inr rfl) hB0; have Q4 := Aside0.mk ((hB.block g (by have := SZ3.out; omega)).trans HA3.out); have F4 := Aside0.mk (bldF_keep FA3.out hB); have B4 := Aside0.mk (below_then BA3.out BA3.out.size hB); have Z4 := Aside0.mk hB.size; clear hB hB0)
         | (go_at_call 77; refine (hP _ (by first | exact TB.out.below (below_then B1.out s1 B4.out) | exact TB.out.below (below_drew (below_then B1.out s1 B4.out)))).mono ?_; rintro e w5 ⟨rfl, hB0⟩; have hB := step3 (W := w4) (by first | exact Or.inl rfl | exact Or.inr rfl) hB0; have Q5 := Aside0.mk ((hB.block g (by have := SZ3.out; have := Z4.out; omega)).trans Q4.out); have F5 := Aside0.mk (bldF_keep F4.out hB); have B5 := Aside0.mk (below_then B4.out B4.out.size hB); clear hB hB0)
         | (go_at_call 56; refine (bldF_write w1.heap.size _ _ _ (by first | exact F5.out | exact bldF_keep F5.out (below_drew (Below.refl _ _))) (by have := RL.out; have := SL.out; have := DL.out; simp only [List.length_append, List.length_cons, List.length_nil, ByteArray.size_append]; have : ByteArray.size ⟨#[32]⟩ = 1 := rfl; have : ByteArray.size ⟨#[58, 32]⟩ = 2 := rfl; omega)).mono ?_; rintro e w6 ⟨rfl, hF, hB, hO⟩; have F6 := Aside0.mk hF; have B6 := Aside0.mk (by first | exact B5.out.trans hB | exact (below_drew B5.out).trans hB); have Q6 := Aside0.mk (others_cell hO (by exact Q5.out) (Nat.ne_of_gt hgb) (by decide)); clear hF hB hO)))
        have hL : (nameL nm pv).length ≤ 4294968300 := by unfold nameL; rw [Lib.size_eq] at NL VL; simp only [List.length_append, List.length_cons]; omega
        have FN : Aside0 (BldF w1.heap.size (rulesN xs k ++ selsN ss ss.length ++ [32, 123] ++ declsN ds m ++ nameL nm pv) w6) := ⟨by
         have e : ((⟨#[32]⟩ : ByteArray) ++ nm ++ (⟨#[58, 32]⟩ : ByteArray) ++ pv).data.toList = nameL nm pv := by unfold nameL; simp [ByteArray.data_append]
         have := F6.out
         rwa [e] at this⟩
        have DE2 : Aside0 (declL (d1, d2, d3, d4) = nameL nm pv ++ ((if d4 = true then 32 :: strongW else []) ++ [59])) := ⟨DE.out⟩
        generalize nameL nm pv = N at hL FN DE2
        have y3' := (HK.out _ Q6.out).2.2.2
        clear c0 c1' c2' c3 hq1 hq2 hq3 hN hP F6 F5 F4 FA3
        cases d4 with
        | true =>
         as_aux_lemma =>
         go_wp2_with (first | (go_at_call 56; with_reducible refine (bldF_write w1.heap.size _ _ _ F8.out (by have := RL.out; have := SL.out; have := DL.out; simp only [List.length_append, List.length_cons, List.length_nil]; have : ByteArray.size ⟨#[59]⟩ = 1 := rfl; have : (⟨#[32, 33, 105, 109, 112, 111, 114, 116, 97, 110, 116]⟩ : ByteArray).data.toList.length = 11 := rfl; have : ([32, 33, 105, 109, 112, 111, 114, 116, 97, 110, 116] : List UInt8).length = 11 := rfl; omega)).mono ?_; rintro e w8 ⟨rfl, hF, hB, hO⟩; have F9 := Aside0.mk hF; have B9 := Aside0.mk (B8.out.trans hB); clear hF hB hO) | (go_at_call 56; with_reducible refine (bldF_write w1.heap.size _ _ _ FN.out (by have := RL.out; have := SL.out; have := DL.out; simp only [List.length_append, List.length_cons, List.length_nil]; have : ByteArray.size ⟨#[32, 33, 105, 109, 112, 111, 114, 116, 97, 110, 116]⟩ = 11 := rfl; omega)).mono ?_; rintro e w7 ⟨rfl, hF, hB, hO⟩; have F8 := Aside0.mk hF; have B8 := Aside0.mk (B6.out.trans hB); clear hF hB hO))
         refine ⟨⟨m + 1, by omega, by go_num, ⟨?_⟩, B9⟩, by simp [RowKit.intOf]; omega⟩
         have := F9.out
         rw [DN.out, DE2.out]
         simpa [List.append_assoc, strongW] using this
        | false =>
         as_aux_lemma =>
         go_wp2_with (first | (go_at_call 56; with_reducible refine (bldF_write w1.heap.size _ _ _ FN.out (by have := RL.out; have := SL.out; have := DL.out; simp only [List.length_append, List.length_cons, List.length_nil]; have : ByteArray.size ⟨#[59]⟩ = 1 := rfl; omega)).mono ?_; rintro e w7 ⟨rfl, hF, hB, hO⟩; have F8 := Aside0.mk hF; have B8 := Aside0.mk (B6.out.trans hB); clear hF hB hO))
         refine ⟨⟨m + 1, by omega, by go_num, ⟨?_⟩, B8⟩, by simp [RowKit.intOf]; omega⟩
         have := F8.out
         rw [DN.out, DE2.out]
         simpa [List.append_assoc] using this
       ·obtain rfl : m = ds.length := by omega
        have g3 : decide ((ds.length : Int) < (ds.length : Int)) = false := decide_eq_false (by omega)
        have DL : Aside0 ((declsN ds ds.length).length ≤ ds.length * 4294968400) := ⟨by
         have q := flat_len (ds.take ds.length) (f := declL) (fun d _ => declL_len d)
         rw [List.length_take, Nat.min_self] at q
         exact q⟩
        go_wp2_with (first | (go_at_call 56; with_reducible refine (bldF_write w1.heap.size _ _ _ FY.out (by have := RL.out; have := SL.out; have := DL.out; have : ByteArray.size ⟨#[32, 125, 10]⟩ = 3 := rfl; simp only [List.length_append, List.length_cons, List.length_nil]; omega)).mono ?_; rintro e w5 ⟨rfl, hF, hB, hO⟩; have F5 := Aside0.mk hF; have B5 := Aside0.mk (BY.out.trans hB); clear hF hB hO))
        refine ⟨⟨k + 1, by omega, by go_num, ⟨?_⟩, B5⟩, by simp [RowKit.intOf]; omega⟩
        have := F5.out
        rw [NX.out]
        unfold declsN at this
        rw [List.take_length] at this
        unfold ruleL
        simpa [List.append_assoc] using this
   ·obtain rfl : k = xs.length := by omega
    have g1 : decide ((xs.length : Int) < (xs.length : Int)) = false := decide_eq_false (by omega)
    have hF := FR.out
    unfold rulesN at hF
    rw [List.take_length] at hF
    have F2 := Aside0.mk hF
    clear hF FR
    go_wp2_with (first | (go_at_call 58; with_reducible refine (bldF_string w1.heap.size _ _ F2.out).mono ?_; rintro e w6 ⟨rfl, hB6⟩))
    go_ret
    exact ⟨by rw [HV.out]; rfl, below_then B1.out s1 (BR.out.trans hB6)⟩
end Go.Proofs.Sht
set_option linter.unusedVariables false
set_option linter.unusedSimpArgs false
namespace Go.Proofs.Sht
open Go.RowKit Go.Lib Go.Proofs.Tok
instance (x : Sel) : Decidable (fitS x) := by unfold fitS; infer_instance
instance (x : Rl) : Decidable (fitR x) := by unfold fitR; infer_instance
instance (x : Sel) : Decidable (txtS x) := by unfold txtS; infer_instance
instance (x : Rl) : Decidable (txtR x) := by unfold txtR; infer_instance
instance (x : Sel) : Decidable (lenS x) := by unfold lenS; infer_instance
instance (x : Rl) : Decidable (lenR x) := by unfold lenR; infer_instance
end Go.Proofs.Sht
