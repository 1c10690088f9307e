/- sheet.May: contracts proved by walking its text; no condition beside those that each theorem states. -/
import Derived.Test.YtolfpgccebdlpaaGreatDoorMys
import Derived.Test.YtolfpgccebdlpaaGreatDoorVaI
set_option linter.unusedVariables false
set_option linter.unusedSimpArgs false
namespace Go.Proofs.Sht
open Go.RowKit Go.Lib Go.Proofs.YtolfpgccebdlpaaGreatDoorW.PrintWords Go.Proofs.YtolfpgccebdlpaaGreatDoorW.PrintLast Go.Proofs.YtolfpgccebdlpaaGreatDoorW.PrintMore Go.Proofs.Tok
abbrev Sel := List Smp × List Bool
abbrev Rl := List Sel × List Dc
def kSel : Kd Sel := Kd.pair (Kd.slice 80 kSmp) (Kd.slice 4 Kd.bool)
def kDc : Kd Dc := Kd.pair (Kd.int .i64) (Kd.pair (Kd.int .i64) (Kd.pair (Kd.int .i64) Kd.bool))
def kRl : Kd Rl := Kd.pair (Kd.slice 25 kSel) (Kd.slice 111 kDc)
def zSel : Sel := ([], [])
def zDc : Dc := (0, 0, 0, false)
theorem two_open {α β : Type} {a : Kd α} {b : Kd β} {e1 e2 : Nat} {w : World} {x : List α × List β} {cs : List Value} (h : (Kd.pair (Kd.slice e1 a) (Kd.slice e2 b)).K w x cs) : ∃ A1 c1 A2 c2, cs = [.slice A1 x.1.length c1, .slice A2 x.2.length c2] ∧ x.1.length ≤ c1 ∧ a.C w A1 x.1.length x.1 ∧ x.2.length ≤ c2 ∧ b.C w A2 x.2.length x.2 := by
  obtain ⟨_, _, rfl, ⟨A1, c1, rfl, l1, g1⟩, ⟨A2, c2, rfl, l2, g2⟩⟩ := h
  exact ⟨A1, c1, A2, c2, rfl, l1, g1, l2, g2⟩
theorem at_two {α β : Type} {a : Kd α} {b : Kd β} {e1 e2 : Nat} {w : World} {A : Option Addr} {n : Nat} {xs : List (List α × List β)} (h : Kd.C (Kd.pair (Kd.slice e1 a) (Kd.slice e2 b)) w A n xs) (k : Nat) (hk : k < n) (hx : k < xs.length) : ∃ ad A1 c1 A2 c2, A = some ad ∧ w.cell? (ad.add (k * 2)) = some (.slice A1 xs[k].1.length c1) ∧ w.cell? ⟨(ad.add (k * 2)).block, (ad.add (k * 2)).off + 1, none⟩ = some (.slice A2 xs[k].2.length c2) ∧ xs[k].1.length ≤ c1 ∧ a.C w A1 xs[k].1.length xs[k].1 ∧ xs[k].2.length ≤ c2 ∧ b.C w A2 xs[k].2.length xs[k].2 := by
  obtain ⟨ad, c, e, _, hK, hc0⟩ := Kd.C_get h ([], []) (k : Int) (by omega) (by omega)
  have hg : xs.getD (k : Int).toNat ([], []) = xs[k] := by rw [Int.toNat_natCast, List.getD, List.getElem?_eq_getElem hx]; rfl
  rw [hg] at hK
  have hc : ∀ j u, c[j]? = some u → w.cell? (ad.add (k * 2 + j)) = some u := hc0
  obtain ⟨A1, c1, A2, c2, rfl, l1, g1, l2, g2⟩ := two_open hK
  exact ⟨ad, A1, c1, A2, c2, e, hc 0 _ rfl, by rw [← add_field _ _ 1 (by omega)]; exact hc 1 _ rfl, l1, g1, l2, g2⟩
theorem at_Dc {w : World} {A : Option Addr} {n : Nat} {xs : List Dc} (h : Kd.C kDc w A n xs) (k : Nat) (hk : k < n) (hx : k < xs.length) : ∃ ad, A = some ad ∧ w.cell? (ad.add (k * 4)) = some (.int .i64 xs[k].1) ∧ w.cell? ⟨(ad.add (k * 4)).block, (ad.add (k * 4)).off + 1, none⟩ = some (.int .i64 xs[k].2.1) ∧ w.cell? ⟨(ad.add (k * 4)).block, (ad.add (k * 4)).off + 2, none⟩ = some (.int .i64 xs[k].2.2.1) ∧ w.cell? ⟨(ad.add (k * 4)).block, (ad.add (k * 4)).off + 3, none⟩ = some (.bool xs[k].2.2.2) := by
  obtain ⟨ad, c, e, _, hK, hc0⟩ := Kd.C_get h zDc (k : Int) (by omega) (by omega)
  have hg : xs.getD (k : Int).toNat zDc = xs[k] := by rw [Int.toNat_natCast, List.getD, List.getElem?_eq_getElem hx]; rfl
  rw [hg] at hK
  have hc : ∀ j u, c[j]? = some u → w.cell? (ad.add (k * 4 + j)) = some u := hc0
  obtain ⟨_, _, rfl, rfl, ⟨_, _, rfl, rfl, ⟨_, _, rfl, rfl, rfl⟩⟩⟩ := hK
  exact ⟨ad, e, hc 0 _ rfl, by rw [← add_field _ _ 1 (by omega)]; exact hc 1 _ rfl, by rw [← add_field _ _ 2 (by omega)]; exact hc 2 _ rfl, by rw [← add_field _ _ 3 (by omega)]; exact hc 3 _ rfl⟩
theorem reps_map {α β : Type} {p : α → List Value → Prop} {q : β → List Value → Prop} {f : α → β} {z : Nat} {xs : List α} {l : List Value} (h : ∀ x cs, p x cs → q (f x) cs) (H : Reps p z xs l) : Reps q z (xs.map f) l := by
  refine ⟨by rw [List.length_map]; exact H.1, fun j y hj => ?_⟩
  rw [List.getElem?_map] at hj
  obtain ⟨x, hx, rfl⟩ := Option.map_eq_some_iff.1 hj
  exact h _ _ (H.2 j x hx)
theorem R_to {α β : Type} {d : Kd α} {d' : Kd β} {f : α → β} {e base : Nat} {ok : Nat → Prop} {w : World} {v : Value} {xs : List α} (hs : d'.sz = d.sz) (h : ∀ w ok x cs, d.M w base ok x cs → d'.M w base ok (f x) cs) (H : d.R e w base ok v xs) : d'.R e w base ok v (xs.map f) := by
  obtain ⟨h0, inner, ho, hr⟩ := H
  refine ⟨h0, inner, ?_, ?_⟩
  · rw [List.length_map, hs]; exact ho
  · rw [hs]; exact reps_map (fun x cs hx => h _ _ x cs hx) hr
theorem C_to {α β : Type} {d : Kd α} {d' : Kd β} {f : α → β} {w : World} {A : Option Addr} {n : Nat} {xs : List α} (hs : d'.sz = d.sz) (h : ∀ w x cs, d.K w x cs → d'.K w (f x) cs) (H : d.C w A n xs) : d'.C w A n (xs.map f) := by
  obtain ⟨h1, h2, h3⟩ := H
  refine ⟨by rw [List.length_map]; exact h1, h2, fun hn => ?_⟩
  obtain ⟨ad, e, hc⟩ := h3 hn
  refine ⟨ad, e, fun j p hj => ?_⟩
  rw [List.getElem?_map] at hj
  obtain ⟨x, hx, rfl⟩ := Option.map_eq_some_iff.1 hj
  rw [hs]
  obtain ⟨c, q1, q2, q3⟩ := hc j x hx
  exact ⟨c, q1, h _ _ _ q2, q3⟩
def maySel (x : Sel) : Bool := mayS x.1 x.2.length
def mayDc (d : Dc) : Bool := Val.mayV (Val.cl d.1) d.2.1 d.2.2.1
def fitS (x : Sel) : Prop := x.1.length ≤ 1000 ∧ x.2.length ≤ 9223372036854775807 ∧ ∀ p ∈ x.1, fitX p
set_option maxHeartbeats 4000000 in
set_option maxRecDepth 400000 in
theorem mays_any (x : Sel) (hx : fitS x) (A1 : Option Addr) (c1 : Nat) (A2 : Option Addr) (c2 : Nat) (w : World) (C1 : Kd.C kSmp w A1 x.1.length x.1) :
    Calls Tryz.prog 71 #[.agg #[.slice A1 x.1.length c1, .slice A2 x.2.length c2]] w fun e w' => e = .returned (.bool (!maySel x)) ∧ Below w.heap.size w w' := by
  have hm := fun W hW => May_any x.1 A1 c1 A2 x.2.length c2 W (Kd.C_below C1 hW) hx.1 hx.2.1 hx.2.2
  unfold maySel
  generalize mayS x.1 x.2.length = r at hm ⊢
  generalize x.1.length = n1 at hm ⊢
  generalize x.2.length = n2 at hm ⊢
  have hu25 := Tryz.underlying25
  have HM := Aside0.mk hm
  clear hm C1
  go_enter Tryz.func71, Tryz.ntmps71
  go_wp2_with (first | (go_at_call 17; refine (HM.out _ (by repeat (first | exact Below.refl _ _ | apply below_alloc))).mono ?_; rintro e w' ⟨rfl, hB⟩))
  go_ret
  exact ⟨rfl, below_then (below_alloc (Below.refl _ _) _) (Nat.le_trans (Nat.le_succ _) (Nat.le_of_eq (alloc_size _ _).symm)) hB⟩
set_option maxHeartbeats 4000000 in
set_option maxRecDepth 400000 in
theorem mayd_any (p k n : Int) (s : Bool) (w : World) :
    Calls Tryz.prog 73 #[.agg #[.int .i64 p, .int .i64 k, .int .i64 n, .bool s]] w fun e w' => e = .returned (.bool (!mayDc (p, k, n, s))) ∧ Below w.heap.size w w' := by
  have hm := fun W => Val.mayP p k n W
  have hX : mayDc (p, k, n, s) = Val.mayV (Val.cl p) k n := rfl
  rw [hX]
  clear hX
  generalize Val.mayV (Val.cl p) k n = r at hm ⊢
  have hu := Tryz.underlying111
  have hu2 := Tryz.underlying109
  have HM := Aside0.mk hm
  clear hm
  go_enter Tryz.func73, Tryz.ntmps73
  go_wp2_with (first | (go_at_call 74; refine (HM.out _).mono ?_; rintro e w' ⟨rfl, hB⟩))
  go_ret
  exact ⟨rfl, below_then (below_alloc (Below.refl _ _) _) (Nat.le_trans (Nat.le_succ _) (Nat.le_of_eq (alloc_size _ _).symm)) hB⟩
set_option maxHeartbeats 4000000 in
set_option maxRecDepth 400000 in
theorem index_sels (xs : List Sel) (A : Option Addr) (c : Nat) (w : World) (C : Kd.C kSel w A xs.length xs) (hl : xs.length ≤ 8796093022208) (hs : ∀ x ∈ xs, fitS x) :
    Calls Tryz.prog 114 #[.slice A xs.length c, .func (.func 71) #[] #[]] w fun e w' => Below w.heap.size w w' ∧ ∃ i : Int, e = .returned (.int .i64 i) ∧ decide (0 ≤ i) = xs.any fun x => !maySel x := by
  have C0 := Aside0.mk C
  have HS := Aside0.mk hs
  clear hs
  clear C
  have hu44 := Tryz.underlying25
  go_enter Tryz.func114, Tryz.ntmps114
  go_wp2
  go_loopw [5, 8, 9, 10, 11, 12, 13, 14, 15, 16, 18] (fun _ i _ _ _ _ _ _ _ _ _ wr => ∃ k : Nat, k ≤ xs.length ∧ i = .int .i64 k ∧ Aside0 (((xs.take k).any fun x => !maySel x) = false) ∧ Aside0 (Below w.heap.size w wr)) (fun _ i _ _ _ _ _ _ _ _ _ _ => xs.length - (RowKit.intOf i).toNat)
  case atStart => exact ⟨0, Nat.zero_le _, rfl, ⟨rfl⟩, ⟨Below.refl _ _⟩⟩
  case round =>
    obtain ⟨k, hk, rfl, N1, B1⟩ := hrel
    by_cases hlt : k < xs.length
    · have g1 : decide ((k : Int) < (xs.length : Int)) = true := decide_eq_true (by omega)
      obtain ⟨ad, A1, c1, A2, c2, e, h0, h1, q1, C1, q2, C2⟩ := at_two C0.out k hlt hlt
      subst e
      have hB := fun (p : Addr) (v : Value) (h : w.cell? p = some v) => (B1.out.cell (World.block_lt_of_cell? _ _ h)).trans h
      have k0 := hB _ _ h0
      have k1 := hB _ _ h1
      have hx := fun W hW => mays_any xs[k] (HS.out _ (List.getElem_mem hlt)) A1 c1 A2 c2 W (Kd.C_below C1 hW)
      have T1 : Aside0 (((xs.take (k + 1)).any fun x => !maySel x) = (((xs.take k).any fun x => !maySel x) || !maySel xs[k])) := ⟨by rw [List.take_succ_eq_append_getElem hlt, List.any_append]; simp⟩
      have T2 : Aside0 (maySel xs[k] = false → (xs.any fun x => !maySel x) = true) := ⟨fun h => List.any_eq_true.2 ⟨xs[k], List.getElem_mem hlt, by rw [h]; rfl⟩⟩
      clear h0 h1 q1 q2 C1 C2 hB
      generalize xs[k] = x at hx k0 k1 T1 T2
      obtain ⟨b, hb⟩ : ∃ b, maySel x = b := ⟨_, rfl⟩
      have HN := Aside0.mk hb
      rw [hb] at hx
      have HX := Aside0.mk hx
      clear hb hx
      cases b with
      | false =>
        go_wp2_with (first | (go_at_call 71; refine (HX.out _ B1.out).mono ?_; rintro e w' ⟨rfl, hB⟩))
        go_ret
        exact ⟨below_then B1.out B1.out.size hB, _, rfl, by rw [T2.out HN.out]; simp⟩
      | true =>
        go_wp2_with (first | (go_at_call 71; refine (HX.out _ B1.out).mono ?_; rintro e w' ⟨rfl, hB⟩))
        exact ⟨⟨k + 1, by omega, by go_num, ⟨by rw [T1.out, N1.out, HN.out]; rfl⟩, ⟨below_then B1.out B1.out.size hB⟩⟩, by simp [RowKit.intOf]; omega⟩
    · obtain rfl : k = xs.length := by omega
      have g1 : decide ((xs.length : Int) < (xs.length : Int)) = false := decide_eq_false (by omega)
      have hN := N1.out
      rw [List.take_length] at hN
      have N2 := Aside0.mk hN
      clear hN N1
      go_wp2
      go_ret
      exact ⟨B1.out, _, rfl, by rw [N2.out]; rfl⟩
set_option maxHeartbeats 2000000 in
set_option maxRecDepth 400000 in
theorem contains_sels (xs : List Sel) (A : Option Addr) (c : Nat) (w : World) (C : Kd.C kSel w A xs.length xs) (hl : xs.length ≤ 8796093022208) (hs : ∀ x ∈ xs, fitS x) :
    Calls Tryz.prog 70 #[.slice A xs.length c, .func (.func 71) #[] #[]] w fun e w' => e = .returned (.bool (xs.any fun x => !maySel x)) ∧ Below w.heap.size w w' := by
  have hi := index_sels xs A c w C hl hs
  clear C
  generalize (xs.any fun x => !maySel x) = r at hi ⊢
  go_enter Tryz.func70, Tryz.ntmps70
  go_wp2_with (first | (go_at_call 114; refine hi.mono ?_; rintro e w' ⟨hB, i, rfl, hd⟩))
  go_ret
  exact ⟨by rw [← hd]; rfl, hB⟩
set_option maxHeartbeats 4000000 in
set_option maxRecDepth 400000 in
theorem index_decls (xs : List Dc) (A : Option Addr) (c : Nat) (w : World) (C : Kd.C kDc w A xs.length xs) (hl : xs.length ≤ 8796093022208) :
    Calls Tryz.prog 115 #[.slice A xs.length c, .func (.func 73) #[] #[]] w fun e w' => Below w.heap.size w w' ∧ ∃ i : Int, e = .returned (.int .i64 i) ∧ decide (0 ≤ i) = xs.any fun x => !mayDc x := by
  have C0 := Aside0.mk C
  clear C
  have hu44 := Tryz.underlying111
  go_enter Tryz.func115, Tryz.ntmps115
  go_wp2
  go_loopw [5, 8, 9, 10, 11, 12, 13, 14, 15, 16, 18] (fun _ i _ _ _ _ _ _ _ _ _ wr => ∃ k : Nat, k ≤ xs.length ∧ i = .int .i64 k ∧ Aside0 (((xs.take k).any fun x => !mayDc x) = false) ∧ Aside0 (Below w.heap.size w wr)) (fun _ i _ _ _ _ _ _ _ _ _ _ => xs.length - (RowKit.intOf i).toNat)
  case atStart => exact ⟨0, Nat.zero_le _, rfl, ⟨rfl⟩, ⟨Below.refl _ _⟩⟩
  case round =>
    obtain ⟨k, hk, rfl, N1, B1⟩ := hrel
    by_cases hlt : k < xs.length
    · have g1 : decide ((k : Int) < (xs.length : Int)) = true := decide_eq_true (by omega)
      obtain ⟨ad, e, h0, h1, h2, h3⟩ := at_Dc C0.out k hlt hlt
      subst e
      have hB := fun (p : Addr) (v : Value) (h : w.cell? p = some v) => (B1.out.cell (World.block_lt_of_cell? _ _ h)).trans h
      have k0 := hB _ _ h0
      have k1 := hB _ _ h1
      have k2 := hB _ _ h2
      have k3 := hB _ _ h3
      have hx := fun W hW => (fun _ => mayd_any xs[k].1 xs[k].2.1 xs[k].2.2.1 xs[k].2.2.2 W) (hW : Below w.heap.size w W)
      have T1 : Aside0 (((xs.take (k + 1)).any fun x => !mayDc x) = (((xs.take k).any fun x => !mayDc x) || !mayDc xs[k])) := ⟨by rw [List.take_succ_eq_append_getElem hlt, List.any_append]; simp⟩
      have T2 : Aside0 (mayDc xs[k] = false → (xs.any fun x => !mayDc x) = true) := ⟨fun h => List.any_eq_true.2 ⟨xs[k], List.getElem_mem hlt, by rw [h]; rfl⟩⟩
      clear h0 h1 h2 h3 hB
      generalize xs[k] = x at hx k0 k1 k2 k3 T1 T2
      obtain ⟨x1, x2, x3, x4⟩ := x
      dsimp only at hx k0 k1 k2 k3
      obtain ⟨b, hb⟩ : ∃ b, mayDc (x1, x2, x3, x4) = b := ⟨_, rfl⟩
      have HN := Aside0.mk hb
      rw [hb] at hx
      have HX := Aside0.mk hx
      clear hb hx
      cases b with
      | false =>
        go_wp2_with (first | (go_at_call 73; refine (HX.out _ B1.out).mono ?_; rintro e w' ⟨rfl, hB⟩))
        go_ret
        exact ⟨below_then B1.out B1.out.size hB, _, rfl, by rw [T2.out HN.out]; simp⟩
      | true =>
        go_wp2_with (first | (go_at_call 73; refine (HX.out _ B1.out).mono ?_; rintro e w' ⟨rfl, hB⟩))
        exact ⟨⟨k + 1, by omega, by go_num, ⟨by rw [T1.out, N1.out, HN.out]; rfl⟩, ⟨below_then B1.out B1.out.size hB⟩⟩, by simp [RowKit.intOf]; omega⟩
    · obtain rfl : k = xs.length := by omega
      have g1 : decide ((xs.length : Int) < (xs.length : Int)) = false := decide_eq_false (by omega)
      have hN := N1.out
      rw [List.take_length] at hN
      have N2 := Aside0.mk hN
      clear hN N1
      go_wp2
      go_ret
      exact ⟨B1.out, _, rfl, by rw [N2.out]; rfl⟩
set_option maxHeartbeats 2000000 in
set_option maxRecDepth 400000 in
theorem contains_decls (xs : List Dc) (A : Option Addr) (c : Nat) (w : World) (C : Kd.C kDc w A xs.length xs) (hl : xs.length ≤ 8796093022208) :
    Calls Tryz.prog 72 #[.slice A xs.length c, .func (.func 73) #[] #[]] w fun e w' => e = .returned (.bool (xs.any fun x => !mayDc x)) ∧ Below w.heap.size w w' := by
  have hi := index_decls xs A c w C hl
  clear C
  generalize (xs.any fun x => !mayDc x) = r at hi ⊢
  go_enter Tryz.func72, Tryz.ntmps72
  go_wp2_with (first | (go_at_call 115; refine hi.mono ?_; rintro e w' ⟨hB, i, rfl, hd⟩))
  go_ret
  exact ⟨by rw [← hd]; rfl, hB⟩
def mayR (r : Rl) : Bool := !(r.1.length == 0) && (decide (r.1.length ≤ 20) && (decide (r.2.length ≤ 60) && (!(r.1.any fun x => !maySel x) && !(r.2.any fun x => !mayDc x))))
def mayL (l : List Rl) : Bool := l.all mayR && decide (l.length ≤ 40)
def fitR (r : Rl) : Prop := r.1.length ≤ 8796093022208 ∧ r.2.length ≤ 8796093022208 ∧ ∀ x ∈ r.1, fitS x
theorem one_below {w wr W : World} {o : Obj} (h : Below w.heap.size w wr) (hB : Below (wr.alloc o).heap.size (wr.alloc o) W) : Below w.heap.size w W := by
  have hs := h.size
  exact below_then (below_alloc h _) (by rw [alloc_size]; omega) hB
theorem box_cell {wr W : World} {cs : Array Value} {t : Nat} (hB : Below (wr.alloc (.cells cs t)).heap.size (wr.alloc (.cells cs t)) W) {j : Nat} {v : Value} (h : cs[j]? = some v) : W.cell? ⟨wr.heap.size, j, none⟩ = some v :=
  (hB.cell (p := ⟨wr.heap.size, j, none⟩) (by rw [alloc_size]; show wr.heap.size < _; omega)).trans (alloc_cell _ _ _ _ _ h)
set_option maxHeartbeats 4000000 in
set_option maxRecDepth 400000 in
theorem MayC (xs : List Rl) (A : Option Addr) (c : Nat) (w : World) (C : Kd.C kRl w A xs.length xs) (hl : xs.length ≤ 8796093022208) (hs : ∀ r ∈ xs, fitR r) :
    Calls Tryz.prog 34 #[.slice A xs.length c] w fun e w' => e = .returned (.bool (mayL xs)) ∧ Below w.heap.size w w' := by
  have C0 := Aside0.mk C
  have HS := Aside0.mk hs
  clear C hs
  have hu := Tryz.underlying115
  go_enter Tryz.func34, Tryz.ntmps34
  go_wp2
  go_loopw [4, 7, 8, 9, 10, 11, 12, 13, 14, 15, 16, 17, 18, 19, 20, 21, 22, 23, 24, 25, 26, 27, 28, 29, 30, 31, 32, 33] (fun _ i _ _ _ _ _ _ _ _ _ _ _ _ _ _ _ _ _ _ _ _ _ _ _ _ _ _ wr => ∃ k : Nat, k ≤ xs.length ∧ i = .int .i64 k ∧ Aside0 ((xs.take k).all mayR = true) ∧ Aside0 (Below w.heap.size w wr)) (fun _ i _ _ _ _ _ _ _ _ _ _ _ _ _ _ _ _ _ _ _ _ _ _ _ _ _ _ _ => xs.length - (RowKit.intOf i).toNat)
  case atStart => exact ⟨0, Nat.zero_le _, rfl, ⟨rfl⟩, ⟨Below.refl _ _⟩⟩
  case round =>
    obtain ⟨k, hk, rfl, N1, B1⟩ := hrel
    by_cases hlt : k < xs.length
    · have g1 : decide ((k : Int) < (xs.length : Int)) = true := decide_eq_true (by omega)
      obtain ⟨ad, A1, c1, A2, c2, e, h0, h1, q1, C1, q2, C2⟩ := at_two C0.out k hlt hlt
      subst e
      have hB := fun (p : Addr) (v : Value) (h : w.cell? p = some v) => (B1.out.cell (World.block_lt_of_cell? _ _ h)).trans h
      have x0 := hB _ _ h0
      have x1 := hB _ _ h1
      have F := HS.out _ (List.getElem_mem hlt)
      have H1 := Aside0.mk (fun W (hW : Below w.heap.size w W) => contains_sels xs[k].1 A1 c1 W (Kd.C_below C1 hW) F.1 F.2.2)
      have H2 := Aside0.mk (fun W (hW : Below w.heap.size w W) => contains_decls xs[k].2 A2 c2 W (Kd.C_below C2 hW) F.2.1)
      have T1 : Aside0 ((xs.take (k + 1)).all mayR = ((xs.take k).all mayR && mayR xs[k])) := ⟨by rw [List.take_succ_eq_append_getElem hlt, List.all_append]; simp⟩
      have T2 : Aside0 (mayR xs[k] = false → mayL xs = false) := ⟨fun h => by
        unfold mayL
        rw [List.all_eq_false.2 ⟨xs[k], List.getElem_mem hlt, by rw [h]; decide⟩]
        rfl⟩
      have HM : Aside0 (mayR xs[k] = (!(xs[k].1.length == 0) && (decide (xs[k].1.length ≤ 20) && (decide (xs[k].2.length ≤ 60) && (!(xs[k].1.any fun x => !maySel x) && !(xs[k].2.any fun x => !mayDc x)))))) := ⟨rfl⟩
      have L1 := F.1
      have L2 := F.2.1
      clear h0 h1 q1 q2 C1 C2 F hB
      generalize mayR xs[k] = b at T1 T2 HM
      obtain ⟨r1, hr1⟩ : ∃ r, (xs[k].1.any fun x => !maySel x) = r := ⟨_, rfl⟩
      obtain ⟨r2, hr2⟩ : ∃ r, (xs[k].2.any fun x => !mayDc x) = r := ⟨_, rfl⟩
      obtain ⟨n1, hn1⟩ : ∃ n, xs[k].1.length = n := ⟨_, rfl⟩
      obtain ⟨n2, hn2⟩ : ∃ n, xs[k].2.length = n := ⟨_, rfl⟩
      rw [hr1, hr2, hn1, hn2] at HM
      rw [hr1, hn1] at H1
      rw [hr2, hn2] at H2
      rw [hn1] at x0 L1
      rw [hn2] at x1 L2
      clear hr1 hr2 hn1 hn2
      have Y1 := Aside0.mk (fun (W : World) (hb : Below (wr.alloc (.cells #[.slice A1 n1 c1, .slice A2 n2 c2] 115)).heap.size (wr.alloc (.cells #[.slice A1 n1 c1, .slice A2 n2 c2] 115)) W) => box_cell hb (j := 1) rfl)
      by_cases z0 : n1 = 0
      · subst z0
        as_aux_lemma =>
        go_wp2
        go_ret
        exact ⟨by rw [T2.out (by rw [HM.out]; rfl)]; rfl, below_alloc B1.out _⟩
      have e0 : ((n1 : Int) == 0) = false := beq_eq_false_iff_ne.2 (by omega)
      have f0 : (n1 == 0) = false := beq_eq_false_iff_ne.2 z0
      by_cases z20 : n1 ≤ 20
      · have e20 : decide ((20 : Int) < (n1 : Int)) = false := decide_eq_false (by omega)
        by_cases z60 : n2 ≤ 60
        · have e60 : decide ((60 : Int) < (n2 : Int)) = false := decide_eq_false (by omega)
          cases r1 with
          | true =>
            as_aux_lemma =>
            go_wp2_with (first | (go_at_call 70; refine (H1.out _ (below_alloc B1.out _)).mono ?_; rintro e w' ⟨rfl, hB⟩))
            go_ret
            exact ⟨by rw [T2.out (by rw [HM.out]; simp)]; rfl, one_below B1.out hB⟩
          | false =>
            cases r2 with
            | true =>
              as_aux_lemma =>
              go_wp2_with (first | (go_at_call 70; refine (H1.out _ (below_alloc B1.out _)).mono ?_; rintro e w' ⟨rfl, hB⟩; have y1 := Y1.out _ hB; have HBB := Aside0.mk (one_below B1.out hB); clear hB) | (go_at_call 72; refine (H2.out _ HBB.out).mono ?_; rintro e w2 ⟨rfl, hB⟩))
              go_ret
              exact ⟨by rw [T2.out (by rw [HM.out]; simp)]; rfl, below_then HBB.out HBB.out.size hB⟩
            | false =>
              have HT : Aside0 (b = true) := ⟨by rw [HM.out, f0, decide_eq_true z20, decide_eq_true z60]; rfl⟩
              as_aux_lemma =>
              go_wp2_with (first | (go_at_call 70; refine (H1.out _ (below_alloc B1.out _)).mono ?_; rintro e w' ⟨rfl, hB⟩; have y1 := Y1.out _ hB; have HBB := Aside0.mk (one_below B1.out hB); clear hB) | (go_at_call 72; refine (H2.out _ HBB.out).mono ?_; rintro e w2 ⟨rfl, hB⟩))
              exact ⟨⟨k + 1, by omega, by go_num, ⟨by rw [T1.out, N1.out, HT.out]; rfl⟩, ⟨below_then HBB.out HBB.out.size hB⟩⟩, by simp [RowKit.intOf]; omega⟩
        · have e60 : decide ((60 : Int) < (n2 : Int)) = true := decide_eq_true (by omega)
          as_aux_lemma =>
          go_wp2
          go_ret
          exact ⟨by rw [T2.out (by rw [HM.out, decide_eq_false z60]; simp)]; rfl, below_alloc B1.out _⟩
      · have e20 : decide ((20 : Int) < (n1 : Int)) = true := decide_eq_true (by omega)
        as_aux_lemma =>
        go_wp2
        go_ret
        exact ⟨by rw [T2.out (by rw [HM.out, decide_eq_false z20]; simp)]; rfl, below_alloc B1.out _⟩
    · obtain rfl : k = xs.length := by omega
      have g1 : decide ((xs.length : Int) < (xs.length : Int)) = false := decide_eq_false (by omega)
      have hN := N1.out
      rw [List.take_length] at hN
      have HM : Aside0 (mayL xs = decide (xs.length ≤ 40)) := ⟨by unfold mayL; rw [hN]; rfl⟩
      clear hN N1
      by_cases z : xs.length ≤ 40
      · have e40 : decide ((xs.length : Int) ≤ 40) = true := decide_eq_true (by omega)
        go_wp2
        go_ret
        exact ⟨by rw [HM.out, decide_eq_true z]; rfl, B1.out⟩
      · have e40 : decide ((xs.length : Int) ≤ 40) = false := decide_eq_false (by omega)
        go_wp2
        go_ret
        exact ⟨by rw [HM.out, decide_eq_false z]; rfl, B1.out⟩
end Go.Proofs.Sht
