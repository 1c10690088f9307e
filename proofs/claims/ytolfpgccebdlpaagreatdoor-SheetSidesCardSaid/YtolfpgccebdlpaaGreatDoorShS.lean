/- sheet.Same: contracts proved by walking its text; no condition beside those that each theorem states. -/
import Derived.Test.YtolfpgccebdlpaaGreatDoorShM
import Derived.Test.YtolfpgccebdlpaaGreatDoorMys
import Derived.Test.YtolfpgccebdlpaaGreatDoorWEqStruct
import Derived.Test.YtolfpgccebdlpaaGreatDoorVaI
set_option linter.unusedVariables false
set_option linter.unusedSimpArgs false
namespace Go.Proofs.Sht
open Go.RowKit Go.Lib Go.Proofs.YtolfpgccebdlpaaGreatDoorW.PrintWords Go.Proofs.YtolfpgccebdlpaaGreatDoorW.PrintLast Go.Proofs.YtolfpgccebdlpaaGreatDoorW.PrintMore Go.Proofs.Tok
instance instSmp : DecidableEq Smp := fun a b => inferInstanceAs (Decidable (a = b))
instance instSel : DecidableEq Sel := instDecidableEqProd
instance instRl : DecidableEq Rl := instDecidableEqProd
theorem eqVal (d : Nat) (w : World) (x0 y0 : Int) (x1 y1 : Int) :
    (Op.equalIn (d + 2) 109 (.agg #[.int .i64 x0, .int .i64 x1]) (.agg #[.int .i64 y0, .int .i64 y1])).run Tryz.prog w = .ok (x0 == y0 && (x1 == y1)) w := by
  refine eqA_of Tryz.underlying109 (by kernel_rfl) ?_
  refine eqf_cons (by rfl) (by go_simp; rfl) (by go_simp; rfl) (by go_simp) ?_
  exact eqf_last (by rfl) (by go_simp; rfl) (by go_simp; rfl) (by go_simp)
theorem eqDc (d : Nat) (w : World) (x0 y0 : Int) (x1 y1 : Int) (x2 y2 : Int) (x3 y3 : Bool) :
    (Op.equalIn (d + 3) 111 (.agg #[.int .i64 x0, .int .i64 x1, .int .i64 x2, .bool x3]) (.agg #[.int .i64 y0, .int .i64 y1, .int .i64 y2, .bool y3])).run Tryz.prog w = .ok (x0 == y0 && ((x1 == y1 && (x2 == y2)) && (x3 == y3))) w := by
  refine eqA_of Tryz.underlying111 (by kernel_rfl) ?_
  refine eqf_cons (by rfl) (by go_simp; rfl) (by go_simp; rfl) (by go_simp) ?_
  refine eqf_cons (by rfl) (by go_simp) (by go_simp) (eqVal (d + 0) w _ _ _ _) ?_
  exact eqf_last (by rfl) (by go_simp; rfl) (by go_simp; rfl) (by go_simp)
attribute [local go_sem high] eqDc
theorem dec4 (a b c a' b' c' : Int) (d d' : Bool) : (a == a' && ((b == b' && (c == c')) && (d == d'))) = decide ((a, b, c, d) = ((a', b', c', d') : Dc)) := by
  rw [Bool.eq_iff_iff]
  simp [and_assoc]
def lenS (x : Sel) : Prop := x.1.length ≤ 1000000 ∧ x.2.length ≤ 1000000 ∧ ∀ p ∈ x.1, lenX p
def lenR (r : Rl) : Prop := r.1.length ≤ 1000000 ∧ r.2.length ≤ 1000000 ∧ ∀ x ∈ r.1, lenS x
theorem pair_dec {α β : Type} [DecidableEq α] [DecidableEq β] (x y : α × β) : (decide (x.1 = y.1) && decide (x.2 = y.2)) = decide (x = y) := by
  obtain ⟨a, b⟩ := x
  obtain ⟨c, d⟩ := y
  rw [Bool.eq_iff_iff]
  simp
theorem selSame (x y : Sel) (hx : lenS x) (hy : lenS y) (A0 A1 E0 E1 : Option Addr) (c0 c1 d0 d1 : Nat) (w : World) (C0 : Kd.C kSmp w A0 x.1.length x.1) (D0 : Kd.C Kd.bool w E0 x.2.length x.2) (C1 : Kd.C kSmp w A1 y.1.length y.1) (D1 : Kd.C Kd.bool w E1 y.2.length y.2) :
    Calls Tryz.prog 23 #[.agg #[.slice A0 x.1.length c0, .slice E0 x.2.length d0], .agg #[.slice A1 y.1.length c1, .slice E1 y.2.length d1]] w fun e w' => e = .returned (.bool (decide (x = y))) ∧ Below w.heap.size w w' := by
  rw [← pair_dec]
  exact Same_any x.1 y.1 x.2 y.2 A0 A1 E0 E1 c0 c1 d0 d1 w C0 C1 D0 D1 hx.1 hy.1 hx.2.1 hy.2.1 hx.2.2 hy.2.2
set_option maxHeartbeats 4000000 in
set_option maxRecDepth 400000 in
theorem eq_decls (xs ys : List Dc) (A0 A1 : Option Addr) (c0 c1 : Nat) (w : World) (C0 : Kd.C kDc w A0 xs.length xs) (C1 : Kd.C kDc w A1 ys.length ys) (hl : xs.length ≤ 9223372036854775807) (hl1 : ys.length ≤ 9223372036854775807) :
    Calls Tryz.prog 83 #[.slice A0 xs.length c0, .slice A1 ys.length c1] w fun e w' => e = .returned (.bool (decide (xs = ys))) ∧ Below w.heap.size w w' := by
  have D0 := Aside0.mk C0
  have D1 := Aside0.mk C1
  clear C0 C1
  have hu1 := Tryz.underlying111
  have hu2 := Tryz.underlying109
  by_cases hn : xs.length = ys.length
  · have HN := Aside0.mk hn
    have e0 : (((xs.length : Nat) : Int) == ((xs.length : Nat) : Int)) = true := by simp
    rw [← hn]
    obtain ⟨r, hr⟩ : ∃ r, decide (xs = ys) = r := ⟨_, rfl⟩
    have HR := Aside0.mk hr
    rw [hr]
    clear hr hn hl1
    obtain ⟨n, hn⟩ : ∃ n, xs.length = n := ⟨_, rfl⟩
    have HX := Aside0.mk hn
    rw [hn] at HN e0 hl ⊢
    clear hn
    go_enter Tryz.func83, Tryz.ntmps83
    go_wp2
    go_loopw [5, 13, 14, 15, 16, 17, 18, 19, 20, 21, 22, 23, 24, 25] (fun _ i _ _ _ _ _ _ _ _ _ _ _ _ wr => ∃ k : Nat, k ≤ n ∧ i = .int .i64 k ∧ Aside0 (xs.take k = ys.take k) ∧ Aside0 (Below w.heap.size w wr)) (fun _ i _ _ _ _ _ _ _ _ _ _ _ _ _ => n - (RowKit.intOf i).toNat)
    case atStart => exact ⟨0, Nat.zero_le _, rfl, ⟨rfl⟩, ⟨Below.refl _ _⟩⟩
    case round =>
      obtain ⟨k, hk, rfl, T1, B1⟩ := hrel
      by_cases hlt : k < n
      · have g1 : decide ((k : Int) < (n : Int)) = true := decide_eq_true (by omega)
        have hx : k < xs.length := by rw [HX.out]; exact hlt
        have hy : k < ys.length := by rw [← HN.out]; exact hlt
        obtain ⟨a0, ea0, h0, h1, h2, h3⟩ := at_Dc D0.out k hx hx
        obtain ⟨a1, ea1, m0, m1, m2, m3⟩ := at_Dc D1.out k hy hy
        subst ea0
        subst ea1
        have hB := fun (p : Addr) (v : Value) (h : w.cell? p = some v) => (B1.out.cell (World.block_lt_of_cell? _ _ h)).trans h
        have x0 := hB _ _ h0
        have x1 := hB _ _ h1
        have x2 := hB _ _ h2
        have x3 := hB _ _ h3
        have y0 := hB _ _ m0
        have y1 := hB _ _ m1
        have y2 := hB _ _ m2
        have y3 := hB _ _ m3
        have p1 : ((k : Int) < (n : Int)) := by omega
        have TN : Aside0 (xs[k] = ys[k] → xs.take (k + 1) = ys.take (k + 1)) := ⟨fun e => take_eq T1.out hx hy e⟩
        have TX : Aside0 (xs[k] ≠ ys[k] → xs ≠ ys) := ⟨fun h e => h (by subst e; rfl)⟩
        clear h0 h1 h2 h3 m0 m1 m2 m3 hB
        generalize xs[k] = x at x0 x1 x2 x3 TN TX
        generalize ys[k] = y at y0 y1 y2 y3 TN TX
        obtain ⟨a, b, c, d⟩ := x
        obtain ⟨a', b', c', d'⟩ := y
        dsimp only at x0 x1 x2 x3 y0 y1 y2 y3
        clear hx hy
        obtain ⟨q, hq⟩ : ∃ q, (a == a' && ((b == b' && (c == c')) && (d == d'))) = q := ⟨_, rfl⟩
        have hq2 := (dec4 a b c a' b' c' d d').symm.trans hq
        have HQ := Aside0.mk hq2
        have BB := Aside0.mk (fun (W : World) (n : Nat) (h : W = wr.drewN n) => (by rw [h]; exact pw_below_drewN B1.out n : Below w.heap.size w W))
        clear hq2
        cases q with
        | true =>
          go_wp2
          go_quiet (fail)
          go_wp2
          exact ⟨⟨k + 1, by omega, by go_num, ⟨TN.out (of_decide_eq_true HQ.out)⟩, ⟨by repeat (first | exact B1.out | apply pw_below_drewN | apply below_drew1 | apply below_drew)⟩⟩, by simp [RowKit.intOf]; omega⟩
        | false =>
          go_wp2
          go_quiet (fail)
          go_wp2
          go_ret
          exact ⟨by rw [← HR.out, decide_eq_false (TX.out (of_decide_eq_false HQ.out))]; rfl, by repeat (first | exact B1.out | apply pw_below_drewN | apply below_drew1 | apply below_drew)⟩
      · obtain rfl : k = n := by omega
        have g1 : decide ((k : Int) < (k : Int)) = false := decide_eq_false (by omega)
        have hT := T1.out
        rw [← HX.out, List.take_length, HX.out, HN.out, List.take_length] at hT
        have HT := Aside0.mk hT
        clear hT T1
        go_wp2
        go_ret
        exact ⟨by rw [← HR.out, decide_eq_true HT.out]; rfl, B1.out⟩
  · have e0 : (((xs.length : Nat) : Int) == ((ys.length : Nat) : Int)) = false := beq_eq_false_iff_ne.2 (by omega)
    rw [decide_eq_false (fun e : xs = ys => hn (by rw [e]))]
    generalize xs.length = n at e0 hn ⊢
    generalize ys.length = m at e0 hn ⊢
    go_enter Tryz.func83, Tryz.ntmps83
    go_wp2
    go_ret
    exact ⟨rfl, Below.refl _ _⟩
set_option maxHeartbeats 1000000 in
set_option maxRecDepth 400000 in
theorem eq_sels (xs ys : List Sel) (A0 A1 : Option Addr) (c0 c1 : Nat) (w : World) (C0 : Kd.C kSel w A0 xs.length xs) (C1 : Kd.C kSel w A1 ys.length ys) (hl : xs.length ≤ 1000000) (hl1 : ys.length ≤ 1000000) (hx : ∀ x ∈ xs, lenS x) (hy : ∀ y ∈ ys, lenS y) :
    Calls Tryz.prog 82 #[.slice A0 xs.length c0, .slice A1 ys.length c1, .func (.func 23) #[] #[]] w fun e w' => e = .returned (.bool (decide (xs = ys))) ∧ Below w.heap.size w w' := by
  have D0 := Aside0.mk C0
  have D1 := Aside0.mk C1
  have L0 := Aside0.mk hx
  have L1 := Aside0.mk hy
  clear C0 C1 hx hy
  have hu44 := Tryz.underlying25
  by_cases hn : xs.length = ys.length
  · have HN := Aside0.mk hn
    have e0 : (((xs.length : Nat) : Int) == ((xs.length : Nat) : Int)) = true := by simp
    rw [← hn]
    obtain ⟨r, hr⟩ : ∃ r, decide (xs = ys) = r := ⟨_, rfl⟩
    have HR := Aside0.mk hr
    rw [hr]
    clear hr hn hl1
    obtain ⟨n, hn⟩ : ∃ n, xs.length = n := ⟨_, rfl⟩
    have HX := Aside0.mk hn
    rw [hn] at HN e0 hl ⊢
    clear hn
    go_enter Tryz.func82, Tryz.ntmps82
    go_wp2
    go_loopw [7, 8, 9, 17, 18, 19, 20, 21, 22, 23, 24, 25, 26, 27, 28, 29, 30, 31] (fun _ _ _ i _ _ _ _ _ _ _ _ _ _ _ _ _ _ wr => ∃ k : Nat, k ≤ n ∧ i = .int .i64 k ∧ Aside0 (xs.take k = ys.take k) ∧ Aside0 (Below w.heap.size w wr)) (fun _ _ _ i _ _ _ _ _ _ _ _ _ _ _ _ _ _ _ => n - (RowKit.intOf i).toNat)
    case atStart => exact ⟨0, Nat.zero_le _, rfl, ⟨rfl⟩, ⟨Below.refl _ _⟩⟩
    case round =>
      obtain ⟨k, hk, rfl, T1, B1⟩ := hrel
      by_cases hlt : k < n
      · have g1 : decide ((k : Int) < (n : Int)) = true := decide_eq_true (by omega)
        have hx : k < xs.length := by rw [HX.out]; exact hlt
        have hy : k < ys.length := by rw [← HN.out]; exact hlt
        obtain ⟨a0, U1, u1, U2, u2, ea0, h0, h1, q1, F1, q2, F2⟩ := at_two D0.out k hx hx
        obtain ⟨a1, V1, v1, V2, v2, ea1, m0, m1, q3, F3, q4, F4⟩ := at_two D1.out k hy hy
        subst ea0
        subst ea1
        have hB := fun (p : Addr) (v : Value) (h : w.cell? p = some v) => (B1.out.cell (World.block_lt_of_cell? _ _ h)).trans h
        have x0 := hB _ _ h0
        have x1 := hB _ _ h1
        have y0 := hB _ _ m0
        have y1 := hB _ _ m1
        have HS := Aside0.mk (fun W (hW : Below w.heap.size w W) => selSame xs[k] ys[k] (L0.out _ (List.getElem_mem hx)) (L1.out _ (List.getElem_mem hy)) U1 V1 U2 V2 u1 v1 u2 v2 W (Kd.C_below F1 hW) (Kd.C_below F2 hW) (Kd.C_below F3 hW) (Kd.C_below F4 hW))
        have TN : Aside0 (xs[k] = ys[k] → xs.take (k + 1) = ys.take (k + 1)) := ⟨fun e => take_eq T1.out hx hy e⟩
        have TX : Aside0 (xs[k] ≠ ys[k] → xs ≠ ys) := ⟨fun h e => h (by subst e; rfl)⟩
        clear h0 h1 m0 m1 q1 q2 q3 q4 F1 F2 F3 F4 hB
        generalize xs[k] = x at x0 x1 HS TN TX
        generalize ys[k] = y at y0 y1 HS TN TX
        clear hx hy
        have al := fun (p : Addr) (v : Value) (h : wr.cell? p = some v) => (World.cell?_alloc_lt wr (Obj.cells #[.slice U1 x.1.length u1, .slice U2 x.2.length u2] 25) p (World.block_lt_of_cell? _ _ h)).trans h
        have z0 := al _ _ y0
        have z1 := al _ _ y1
        clear al
        obtain ⟨b, hb⟩ : ∃ b, decide (x = y) = b := ⟨_, rfl⟩
        have HE := Aside0.mk hb
        rw [hb] at HS
        clear hb
        cases b with
        | true =>
          go_wp2_with (first | (go_at_call 23; with_reducible refine (HS.out _ (by repeat (first | exact B1.out | apply below_alloc))).mono ?_; rintro e w' ⟨rfl, hB⟩; have HBB := Aside0.mk (two_below B1.out hB); clear hB))
          exact ⟨⟨k + 1, by omega, by go_num, ⟨TN.out (of_decide_eq_true HE.out)⟩, HBB⟩, by simp [RowKit.intOf]; omega⟩
        | false =>
          go_wp2_with (first | (go_at_call 23; with_reducible refine (HS.out _ (by repeat (first | exact B1.out | apply below_alloc))).mono ?_; rintro e w' ⟨rfl, hB⟩; have HBB := Aside0.mk (two_below B1.out hB); clear hB))
          go_ret
          exact ⟨by rw [← HR.out, decide_eq_false (TX.out (of_decide_eq_false HE.out))]; rfl, HBB.out⟩
      · obtain rfl : k = n := by omega
        have g1 : decide ((k : Int) < (k : Int)) = false := decide_eq_false (by omega)
        have hT := T1.out
        rw [← HX.out, List.take_length, HX.out, HN.out, List.take_length] at hT
        have HT := Aside0.mk hT
        clear hT T1
        go_wp2
        go_ret
        exact ⟨by rw [← HR.out, decide_eq_true HT.out]; rfl, B1.out⟩
  · have e0 : (((xs.length : Nat) : Int) == ((ys.length : Nat) : Int)) = false := beq_eq_false_iff_ne.2 (by omega)
    rw [decide_eq_false (fun e : xs = ys => hn (by rw [e]))]
    generalize xs.length = n at e0 hn ⊢
    generalize ys.length = m at e0 hn ⊢
    go_enter Tryz.func82, Tryz.ntmps82
    go_wp2
    go_ret
    exact ⟨rfl, Below.refl _ _⟩
set_option maxHeartbeats 1000000 in
set_option maxRecDepth 400000 in
theorem same1R (xs ys : List Sel) (bs cs : List Dc) (A0 A1 E0 E1 : Option Addr) (c0 c1 d0 d1 : Nat) (w : World) (C0 : Kd.C kSel w A0 xs.length xs) (C1 : Kd.C kSel w A1 ys.length ys) (D0 : Kd.C kDc w E0 bs.length bs) (D1 : Kd.C kDc w E1 cs.length cs) (hl : xs.length ≤ 1000000) (hl1 : ys.length ≤ 1000000) (hb : bs.length ≤ 1000000) (hc : cs.length ≤ 1000000) (hx : ∀ x ∈ xs, lenS x) (hy : ∀ y ∈ ys, lenS y) :
    Calls Tryz.prog 81 #[.agg #[.slice A0 xs.length c0, .slice E0 bs.length d0], .agg #[.slice A1 ys.length c1, .slice E1 cs.length d1]] w fun e w' => e = .returned (.bool (decide (xs = ys) && decide (bs = cs))) ∧ Below w.heap.size w w' := by
  have HS := Aside0.mk (fun W (hW : Below w.heap.size w W) => eq_sels xs ys A0 A1 c0 c1 W (Kd.C_below C0 hW) (Kd.C_below C1 hW) hl hl1 hx hy)
  have HB := Aside0.mk (fun W (hW : Below w.heap.size w W) => eq_decls bs cs E0 E1 d0 d1 W (Kd.C_below D0 hW) (Kd.C_below D1 hW) (by omega) (by omega))
  clear C0 C1 D0 D1 hx hy
  have hu25 := Tryz.underlying115
  obtain ⟨r1, hr1⟩ : ∃ r1, decide (xs = ys) = r1 := ⟨_, rfl⟩
  obtain ⟨r2, hr2⟩ : ∃ r2, decide (bs = cs) = r2 := ⟨_, rfl⟩
  rw [hr1] at HS ⊢
  rw [hr2] at HB ⊢
  clear hr1 hr2 hl hl1 hb hc
  generalize xs.length = n1 at HS ⊢
  generalize ys.length = n2 at HS ⊢
  generalize bs.length = m1 at HB ⊢
  generalize cs.length = m2 at HB ⊢
  have k0 := fun (j : Nat) (v : Value) (W : World) (h : (#[.slice A0 n1 c0, .slice E0 m1 d0] : Array Value)[j]? = some v) (hb : Below ((w.alloc (.cells #[.slice A0 n1 c0, .slice E0 m1 d0] 115)).alloc (.cells #[.slice A1 n2 c1, .slice E1 m2 d1] 115)).heap.size ((w.alloc (.cells #[.slice A0 n1 c0, .slice E0 m1 d0] 115)).alloc (.cells #[.slice A1 n2 c1, .slice E1 m2 d1] 115)) W) => (hb.cell (p := ⟨w.heap.size, j, none⟩) (by rw [alloc_size, alloc_size]; show w.heap.size < _; omega)).trans ((World.cell?_alloc2_first _ _ _ _).trans h)
  have k1 := fun (j : Nat) (v : Value) (W : World) (h : (#[.slice A1 n2 c1, .slice E1 m2 d1] : Array Value)[j]? = some v) (hb : Below ((w.alloc (.cells #[.slice A0 n1 c0, .slice E0 m1 d0] 115)).alloc (.cells #[.slice A1 n2 c1, .slice E1 m2 d1] 115)).heap.size ((w.alloc (.cells #[.slice A0 n1 c0, .slice E0 m1 d0] 115)).alloc (.cells #[.slice A1 n2 c1, .slice E1 m2 d1] 115)) W) => (hb.cell (p := ⟨w.heap.size + 1, j, none⟩) (by rw [alloc_size, alloc_size]; show w.heap.size + 1 < _; omega)).trans ((World.cell?_alloc2_new _ _ _ _).trans h)
  have K0 := Aside0.mk k0
  have K1 := Aside0.mk k1
  clear k0 k1
  cases r1 with
  | false =>
    go_enter Tryz.func81, Tryz.ntmps81
    go_wp2_with (first | (go_at_call 82; with_reducible refine (HS.out _ (by repeat (first | exact Below.refl _ _ | apply below_alloc | apply below_drew1 | apply pw_below_drewN))).mono ?_; rintro e w' ⟨rfl, hB⟩; have HBB := Aside0.mk (two_below (Below.refl _ _) hB); clear hB))
    go_ret
    exact ⟨rfl, HBB.out⟩
  | true =>
    go_enter Tryz.func81, Tryz.ntmps81
    go_wp2_with (first | (go_at_call 82; with_reducible refine (HS.out _ (by repeat (first | exact Below.refl _ _ | apply below_alloc | apply below_drew1 | apply pw_below_drewN))).mono ?_; rintro e w' ⟨rfl, hB⟩; have q0 := K0.out 1 (.slice E0 m1 d0) _ rfl hB; have q1 := K1.out 1 (.slice E1 m2 d1) _ rfl hB; have HBB := Aside0.mk (two_below (Below.refl _ _) hB); clear hB) | (go_at_call 83; with_reducible refine (HB.out _ HBB.out).mono ?_; rintro e w2 ⟨rfl, hB2⟩))
    go_ret
    exact ⟨rfl, below_then HBB.out HBB.out.size hB2⟩
theorem same1Ru (x y : Rl) (hx : lenR x) (hy : lenR y) (A0 A1 E0 E1 : Option Addr) (c0 c1 d0 d1 : Nat) (w : World) (C0 : Kd.C kSel w A0 x.1.length x.1) (D0 : Kd.C kDc w E0 x.2.length x.2) (C1 : Kd.C kSel w A1 y.1.length y.1) (D1 : Kd.C kDc w E1 y.2.length y.2) :
    Calls Tryz.prog 81 #[.agg #[.slice A0 x.1.length c0, .slice E0 x.2.length d0], .agg #[.slice A1 y.1.length c1, .slice E1 y.2.length d1]] w fun e w' => e = .returned (.bool (decide (x = y))) ∧ Below w.heap.size w w' := by
  rw [← pair_dec]
  exact same1R x.1 y.1 x.2 y.2 A0 A1 E0 E1 c0 c1 d0 d1 w C0 C1 D0 D1 hx.1 hy.1 hx.2.1 hy.2.1 hx.2.2 hy.2.2
set_option maxHeartbeats 1000000 in
set_option maxRecDepth 400000 in
theorem eq_rules (xs ys : List Rl) (A0 A1 : Option Addr) (c0 c1 : Nat) (w : World) (C0 : Kd.C kRl w A0 xs.length xs) (C1 : Kd.C kRl w A1 ys.length ys) (hl : xs.length ≤ 1000000) (hl1 : ys.length ≤ 1000000) (hx : ∀ x ∈ xs, lenR x) (hy : ∀ y ∈ ys, lenR y) :
    Calls Tryz.prog 80 #[.slice A0 xs.length c0, .slice A1 ys.length c1, .func (.func 81) #[] #[]] w fun e w' => e = .returned (.bool (decide (xs = ys))) ∧ Below w.heap.size w w' := by
  have D0 := Aside0.mk C0
  have D1 := Aside0.mk C1
  have L0 := Aside0.mk hx
  have L1 := Aside0.mk hy
  clear C0 C1 hx hy
  have hu44 := Tryz.underlying115
  by_cases hn : xs.length = ys.length
  · have HN := Aside0.mk hn
    have e0 : (((xs.length : Nat) : Int) == ((xs.length : Nat) : Int)) = true := by simp
    rw [← hn]
    obtain ⟨r, hr⟩ : ∃ r, decide (xs = ys) = r := ⟨_, rfl⟩
    have HR := Aside0.mk hr
    rw [hr]
    clear hr hn hl1
    obtain ⟨n, hn⟩ : ∃ n, xs.length = n := ⟨_, rfl⟩
    have HX := Aside0.mk hn
    rw [hn] at HN e0 hl ⊢
    clear hn
    go_enter Tryz.func80, Tryz.ntmps80
    go_wp2
    go_loopw [7, 8, 9, 17, 18, 19, 20, 21, 22, 23, 24, 25, 26, 27, 28, 29, 30, 31] (fun _ _ _ i _ _ _ _ _ _ _ _ _ _ _ _ _ _ wr => ∃ k : Nat, k ≤ n ∧ i = .int .i64 k ∧ Aside0 (xs.take k = ys.take k) ∧ Aside0 (Below w.heap.size w wr)) (fun _ _ _ i _ _ _ _ _ _ _ _ _ _ _ _ _ _ _ => n - (RowKit.intOf i).toNat)
    case atStart => exact ⟨0, Nat.zero_le _, rfl, ⟨rfl⟩, ⟨Below.refl _ _⟩⟩
    case round =>
      obtain ⟨k, hk, rfl, T1, B1⟩ := hrel
      by_cases hlt : k < n
      · have g1 : decide ((k : Int) < (n : Int)) = true := decide_eq_true (by omega)
        have hx : k < xs.length := by rw [HX.out]; exact hlt
        have hy : k < ys.length := by rw [← HN.out]; exact hlt
        obtain ⟨a0, U1, u1, U2, u2, ea0, h0, h1, q1, F1, q2, F2⟩ := at_two D0.out k hx hx
        obtain ⟨a1, V1, v1, V2, v2, ea1, m0, m1, q3, F3, q4, F4⟩ := at_two D1.out k hy hy
        subst ea0
        subst ea1
        have hB := fun (p : Addr) (v : Value) (h : w.cell? p = some v) => (B1.out.cell (World.block_lt_of_cell? _ _ h)).trans h
        have x0 := hB _ _ h0
        have x1 := hB _ _ h1
        have y0 := hB _ _ m0
        have y1 := hB _ _ m1
        have HS := Aside0.mk (fun W (hW : Below w.heap.size w W) => same1Ru xs[k] ys[k] (L0.out _ (List.getElem_mem hx)) (L1.out _ (List.getElem_mem hy)) U1 V1 U2 V2 u1 v1 u2 v2 W (Kd.C_below F1 hW) (Kd.C_below F2 hW) (Kd.C_below F3 hW) (Kd.C_below F4 hW))
        have TN : Aside0 (xs[k] = ys[k] → xs.take (k + 1) = ys.take (k + 1)) := ⟨fun e => take_eq T1.out hx hy e⟩
        have TX : Aside0 (xs[k] ≠ ys[k] → xs ≠ ys) := ⟨fun h e => h (by subst e; rfl)⟩
        clear h0 h1 m0 m1 q1 q2 q3 q4 F1 F2 F3 F4 hB
        generalize xs[k] = x at x0 x1 HS TN TX
        generalize ys[k] = y at y0 y1 HS TN TX
        clear hx hy
        have al := fun (p : Addr) (v : Value) (h : wr.cell? p = some v) => (World.cell?_alloc_lt wr (Obj.cells #[.slice U1 x.1.length u1, .slice U2 x.2.length u2] 115) p (World.block_lt_of_cell? _ _ h)).trans h
        have z0 := al _ _ y0
        have z1 := al _ _ y1
        clear al
        obtain ⟨b, hb⟩ : ∃ b, decide (x = y) = b := ⟨_, rfl⟩
        have HE := Aside0.mk hb
        rw [hb] at HS
        clear hb
        cases b with
        | true =>
          go_wp2_with (first | (go_at_call 81; with_reducible refine (HS.out _ (by repeat (first | exact B1.out | apply below_alloc))).mono ?_; rintro e w' ⟨rfl, hB⟩; have HBB := Aside0.mk (two_below B1.out hB); clear hB))
          exact ⟨⟨k + 1, by omega, by go_num, ⟨TN.out (of_decide_eq_true HE.out)⟩, HBB⟩, by simp [RowKit.intOf]; omega⟩
        | false =>
          go_wp2_with (first | (go_at_call 81; with_reducible refine (HS.out _ (by repeat (first | exact B1.out | apply below_alloc))).mono ?_; rintro e w' ⟨rfl, hB⟩; have HBB := Aside0.mk (two_below B1.out hB); clear hB))
          go_ret
          exact ⟨by rw [← HR.out, decide_eq_false (TX.out (of_decide_eq_false HE.out))]; rfl, HBB.out⟩
      · obtain rfl : k = n := by omega
        have g1 : decide ((k : Int) < (k : Int)) = false := decide_eq_false (by omega)
        have hT := T1.out
        rw [← HX.out, List.take_length, HX.out, HN.out, List.take_length] at hT
        have HT := Aside0.mk hT
        clear hT T1
        go_wp2
        go_ret
        exact ⟨by rw [← HR.out, decide_eq_true HT.out]; rfl, B1.out⟩
  · have e0 : (((xs.length : Nat) : Int) == ((ys.length : Nat) : Int)) = false := beq_eq_false_iff_ne.2 (by omega)
    rw [decide_eq_false (fun e : xs = ys => hn (by rw [e]))]
    generalize xs.length = n at e0 hn ⊢
    generalize ys.length = m at e0 hn ⊢
    go_enter Tryz.func80, Tryz.ntmps80
    go_wp2
    go_ret
    exact ⟨rfl, Below.refl _ _⟩
set_option maxHeartbeats 1000000 in
set_option maxRecDepth 400000 in
theorem SameC (xs ys : List Rl) (A0 A1 : Option Addr) (c0 c1 : Nat) (w : World) (C0 : Kd.C kRl w A0 xs.length xs) (C1 : Kd.C kRl w A1 ys.length ys) (hl : xs.length ≤ 1000000) (hl1 : ys.length ≤ 1000000) (hx : ∀ x ∈ xs, lenR x) (hy : ∀ y ∈ ys, lenR y) :
    Calls Tryz.prog 38 #[.slice A0 xs.length c0, .slice A1 ys.length c1] w fun e w' => e = .returned (.bool (decide (xs = ys))) ∧ Below w.heap.size w w' := by
  have HE := Aside0.mk (fun W (hW : Below w.heap.size w W) => eq_rules xs ys A0 A1 c0 c1 W (Kd.C_below C0 hW) (Kd.C_below C1 hW) hl hl1 hx hy)
  clear C0 C1 hx hy
  generalize decide (xs = ys) = r at HE ⊢
  generalize xs.length = n at HE ⊢
  generalize ys.length = m at HE ⊢
  go_enter Tryz.func38, Tryz.ntmps38
  go_wp2_with (first | (go_at_call 80; with_reducible refine (HE.out _ (Below.refl _ _)).mono ?_; rintro e w' ⟨rfl, hB⟩))
  go_ret
  exact ⟨rfl, hB⟩
end Go.Proofs.Sht
set_option linter.unusedVariables false
set_option linter.unusedSimpArgs false
namespace Go.Proofs.Val
open Go
theorem suf_app (l s : List UInt8) : Lib.hasSuffix (l ++ s) s = true ∧ Lib.trimSuffix (l ++ s) s = l := by
  have h : Lib.hasSuffix (l ++ s) s = true := by unfold Lib.hasSuffix; rw [List.isSuffixOf_iff_suffix]; exact ⟨l, rfl⟩
  exact ⟨h, by unfold Lib.trimSuffix; rw [if_pos h]; simp⟩
theorem suf_last {l s : List UInt8} {c d : UInt8} (h : c ≠ d) : Lib.hasSuffix (l ++ [c]) (s ++ [d]) = false := by
  unfold Lib.hasSuffix
  rw [Bool.eq_false_iff, Ne, List.isSuffixOf_iff_suffix]
  rintro ⟨t, ht⟩
  have := congrArg List.getLast? ht
  simp at this
  exact h this.symm
theorem cl_lt (p : Int) : cl p < 27 := by have := cl_le p; omega
theorem print_size (p k n : Int) : (printV p k n).size < 4294967281 := by
  show (printL (cl p) k n).length < _
  by_cases h : mayV (cl p) k n = true
  · have hlow := low_ge (cl p)
    have hP : printL (cl p) k n = (if k = 1 then autoW else if k = 4 then 35 :: hexL n.toNat else if k = 5 then ((wordsP (cl p)).getD n.toNat ByteArray.empty).data.toList
      else if k = 2 then decL n ++ [112, 120] else if k = 3 then decL n ++ [37] else decL n) := by unfold printL; rw [if_pos h]
    have fw : ∀ p : Fin 27, ∀ i : Fin 4, ((wordsP p.val).getD i.val ByteArray.empty).data.toList.length < 4294967281 := by decide +kernel
    rcases may_kinds h with ⟨rfl, rfl, ha⟩ | ⟨rfl, h1, h2, ha⟩ | ⟨rfl, h1, h2, ha⟩ | ⟨rfl, h1, h2, ha⟩ | ⟨rfl, h1, h2⟩ | ⟨rfl, h1, h2, ha⟩
    · rw [if_pos rfl] at hP; rw [hP]; decide
    · have := decL_len n (by omega) h2
      rw [if_neg (by omega), if_neg (by omega), if_neg (by omega), if_pos rfl] at hP; rw [hP, List.length_append]; simp; omega
    · have := decL_len n (by omega) h2
      rw [if_neg (by omega), if_neg (by omega), if_neg (by omega), if_neg (by omega), if_pos rfl] at hP; rw [hP, List.length_append]; simp; omega
    · rw [if_neg (by omega), if_pos rfl] at hP; rw [hP]; simp [hexL]
    · rw [if_neg (by omega), if_neg (by omega), if_pos rfl] at hP
      rw [wordsP_len _ (cl_le p)] at h2
      have := wordsP_le (cl p)
      rw [hP]
      exact fw ⟨cl p, cl_lt p⟩ ⟨n.toNat, by omega⟩
    · have := decL_len n (by omega) h2
      rw [if_neg (by omega), if_neg (by omega), if_neg (by omega), if_neg (by omega), if_neg (by omega)] at hP; rw [hP]; omega
  · unfold printL; rw [if_neg h]; decide
end Go.Proofs.Val
