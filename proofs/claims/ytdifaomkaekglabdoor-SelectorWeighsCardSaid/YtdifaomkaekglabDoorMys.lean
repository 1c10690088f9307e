/- selector.May: contracts proved by walking its text; no condition beside those that each theorem states. -/
import Derived.Test.YtdifaomkaekglabDoorMay
set_option linter.unusedVariables false
set_option linter.unusedSimpArgs false
namespace Go.Proofs.Tok
open Go.RowKit Go.Lib Go.Proofs.YtdifaomkaekglabDoorW.PrintWords Go.Proofs.YtdifaomkaekglabDoorW.PrintLast Go.Proofs.YtdifaomkaekglabDoorW.PrintMore
/-- a part: tag, ids, classes, link, visited -/
abbrev Smp := ByteArray × List ByteArray × List ByteArray × Bool × Bool
def kSmp : Kd Smp := Kd.pair Kd.string (Kd.pair (Kd.slice 9 Kd.string) (Kd.pair (Kd.slice 9 Kd.string) (Kd.pair Kd.bool Kd.bool)))
def zSmp : Smp := (⟨#[]⟩, [], [], false, false)
theorem kSmp_open {w : World} {x : Smp} {cs : List Value} (h : kSmp.K w x cs) : ∃ A1 c1 A2 c2, cs = [.string x.1, .slice A1 x.2.1.length c1, .slice A2 x.2.2.1.length c2, .bool x.2.2.2.1, .bool x.2.2.2.2] ∧ x.2.1.length ≤ c1 ∧ Kd.string.C w A1 x.2.1.length x.2.1 ∧ x.2.2.1.length ≤ c2 ∧ Kd.string.C w A2 x.2.2.1.length x.2.2.1 := by
  obtain ⟨_, _, rfl, rfl, ⟨_, _, rfl, ⟨A1, c1, rfl, l1, g1⟩, ⟨_, _, rfl, ⟨A2, c2, rfl, l2, g2⟩, ⟨_, _, rfl, rfl, rfl⟩⟩⟩⟩ := h
  exact ⟨A1, c1, A2, c2, rfl, l1, g1, l2, g2⟩
theorem at_Smp {w : World} {A : Option Addr} {n : Nat} {xs : List Smp} (h : Kd.C kSmp w A n xs) (k : Nat) (hk : k < n) (hx : k < xs.length) : ∃ ad A1 c1 A2 c2, A = some ad ∧ w.cell? (ad.add (k * 5)) = some (.string xs[k].1) ∧ w.cell? ⟨(ad.add (k * 5)).block, (ad.add (k * 5)).off + 1, none⟩ = some (.slice A1 xs[k].2.1.length c1) ∧ w.cell? ⟨(ad.add (k * 5)).block, (ad.add (k * 5)).off + 2, none⟩ = some (.slice A2 xs[k].2.2.1.length c2) ∧ w.cell? ⟨(ad.add (k * 5)).block, (ad.add (k * 5)).off + 3, none⟩ = some (.bool xs[k].2.2.2.1) ∧ w.cell? ⟨(ad.add (k * 5)).block, (ad.add (k * 5)).off + 4, none⟩ = some (.bool xs[k].2.2.2.2) ∧ xs[k].2.1.length ≤ c1 ∧ Kd.string.C w A1 xs[k].2.1.length xs[k].2.1 ∧ xs[k].2.2.1.length ≤ c2 ∧ Kd.string.C w A2 xs[k].2.2.1.length xs[k].2.2.1 := by
  obtain ⟨ad, c, e, _, hK, hc0⟩ := Kd.C_get h zSmp (k : Int) (by omega) (by omega)
  have hg : xs.getD (k : Int).toNat zSmp = xs[k] := by rw [Int.toNat_natCast, List.getD, List.getElem?_eq_getElem hx]; rfl
  rw [hg] at hK
  have hc : ∀ j u, c[j]? = some u → w.cell? (ad.add (k * 5 + j)) = some u := hc0
  obtain ⟨A1, c1, A2, c2, rfl, l1, g1, l2, g2⟩ := kSmp_open hK
  exact ⟨ad, A1, c1, A2, c2, e, hc 0 _ rfl, by rw [← add_field _ _ 1 (by omega)]; exact hc 1 _ rfl, by rw [← add_field _ _ 2 (by omega)]; exact hc 2 _ rfl, by rw [← add_field _ _ 3 (by omega)]; exact hc 3 _ rfl, by rw [← add_field _ _ 4 (by omega)]; exact hc 4 _ rfl, l1, g1, l2, g2⟩
def mayX (x : Smp) : Bool := mayV x.1 x.2.1 x.2.2.1 x.2.2.2.1 x.2.2.2.2
def fitX (x : Smp) : Prop := (x.2.1.length + x.2.2.1.length) * 16 ≤ 140737488355328 ∧ x.1.size < 4294967281 ∧ ∀ s ∈ x.2.1 ++ x.2.2.1, s.size < 4294967281
set_option maxHeartbeats 4000000 in
set_option maxRecDepth 400000 in
theorem mayp_any (x : Smp) (hx : fitX x) (A1 : Option Addr) (c1 : Nat) (A2 : Option Addr) (c2 : Nat) (w : World) (C1 : Kd.C Kd.string w A1 x.2.1.length x.2.1) (C2 : Kd.C Kd.string w A2 x.2.2.1.length x.2.2.1) :
    Calls Tryd.prog 25 #[.agg #[.string x.1, .slice A1 x.2.1.length c1, .slice A2 x.2.2.1.length c2, .bool x.2.2.2.1, .bool x.2.2.2.2]] w fun e w' => e = .returned (.bool (!mayX x)) ∧ Below w.heap.size w w' := by
  obtain ⟨t, l1, l2, b3, b4⟩ := x
  obtain ⟨hl, ht, hs⟩ := hx
  simp only at C1 C2 hl ht hs
  have hm := fun W hW => may_any t A1 c1 l1 A2 c2 l2 b3 b4 W (Kd.C_below C1 hW) (Kd.C_below C2 hW) hl ht hs
  have hX : mayX (t, l1, l2, b3, b4) = mayV t l1 l2 b3 b4 := rfl
  rw [hX]
  clear hX hs C1 C2 hl
  generalize mayV t l1 l2 b3 b4 = r at hm ⊢
  have hu44 := Tryd.underlying44
  have HM := Aside0.mk hm
  clear hm
  go_enter Tryd.func25, Tryd.ntmps25
  go_wp2_with (first | (go_at_call 26; refine (HM.out _ (by repeat (first | exact Below.refl _ _ | apply below_alloc))).mono ?_; rintro e w' ⟨rfl, hB⟩))
  go_ret
  exact ⟨rfl, below_then (below_alloc (Below.refl _ _) _) (Nat.le_trans (Nat.le_succ _) (Nat.le_of_eq (alloc_size _ _).symm)) hB⟩
set_option maxHeartbeats 4000000 in
set_option maxRecDepth 400000 in
theorem index_smps (xs : List Smp) (A : Option Addr) (c : Nat) (w : World) (C : Kd.C kSmp w A xs.length xs) (hl : xs.length ≤ 1000) (hs : ∀ x ∈ xs, fitX x) :
    Calls Tryd.prog 39 #[.slice A xs.length c, .func (.func 25) #[] #[]] w fun e w' => Below w.heap.size w w' ∧ ∃ i : Int, e = .returned (.int .i64 i) ∧ decide (0 ≤ i) = xs.any fun x => !mayX x := by
  have C0 := Aside0.mk C
  have HS := Aside0.mk hs
  clear C hs
  have hu44 := Tryd.underlying44
  go_enter Tryd.func39, Tryd.ntmps39
  go_wp2
  go_loopw [5, 8, 9, 10, 11, 12, 13, 14, 15, 16, 18] (fun _ i _ _ _ _ _ _ _ _ _ wr => ∃ k : Nat, k ≤ xs.length ∧ i = .int .i64 k ∧ Aside0 (((xs.take k).any fun x => !mayX x) = false) ∧ Aside0 (Below w.heap.size w wr)) (fun _ i _ _ _ _ _ _ _ _ _ _ => xs.length - (RowKit.intOf i).toNat)
  case atStart => exact ⟨0, Nat.zero_le _, rfl, ⟨rfl⟩, ⟨Below.refl _ _⟩⟩
  case round =>
    obtain ⟨k, hk, rfl, N1, B1⟩ := hrel
    by_cases hlt : k < xs.length
    · have g1 : decide ((k : Int) < (xs.length : Int)) = true := decide_eq_true (by omega)
      obtain ⟨ad, A1, c1, A2, c2, e, h0, h1, h2, h3, h4, q1, C1, q2, C2⟩ := at_Smp C0.out k hlt hlt
      subst e
      have hB := fun (p : Addr) (v : Value) (h : w.cell? p = some v) => (B1.out.cell (World.block_lt_of_cell? _ _ h)).trans h
      have k0 := hB _ _ h0
      have k1 := hB _ _ h1
      have k2 := hB _ _ h2
      have k3 := hB _ _ h3
      have k4 := hB _ _ h4
      have hx := fun W hW => mayp_any xs[k] (HS.out _ (List.getElem_mem hlt)) A1 c1 A2 c2 W (Kd.C_below C1 hW) (Kd.C_below C2 hW)
      have T1 : Aside0 (((xs.take (k + 1)).any fun x => !mayX x) = (((xs.take k).any fun x => !mayX x) || !mayX xs[k])) := ⟨by rw [List.take_succ_eq_append_getElem hlt, List.any_append]; simp⟩
      have T2 : Aside0 (mayX xs[k] = false → (xs.any fun x => !mayX x) = true) := ⟨fun h => List.any_eq_true.2 ⟨xs[k], List.getElem_mem hlt, by rw [h]; rfl⟩⟩
      clear h0 h1 h2 h3 h4 hB q1 q2 C1 C2
      generalize xs[k] = x at hx k0 k1 k2 k3 k4 T1 T2
      obtain ⟨b, hb⟩ : ∃ b, mayX x = b := ⟨_, rfl⟩
      have HN := Aside0.mk hb
      rw [hb] at hx
      have HX := Aside0.mk hx
      clear hb hx
      cases b with
      | false =>
        go_wp2_with (first | (go_at_call 25; refine (HX.out _ B1.out).mono ?_; rintro e w' ⟨rfl, hB⟩))
        go_ret
        exact ⟨below_then B1.out B1.out.size hB, _, rfl, by rw [T2.out HN.out]; simp⟩
      | true =>
        go_wp2_with (first | (go_at_call 25; refine (HX.out _ B1.out).mono ?_; rintro e w' ⟨rfl, hB⟩))
        exact ⟨⟨k + 1, by omega, by go_num, ⟨by rw [T1.out, N1.out, HN.out]; rfl⟩, ⟨below_then B1.out B1.out.size hB⟩⟩, by simp [RowKit.intOf]; omega⟩
    · obtain rfl : k = xs.length := by omega
      have g1 : decide ((xs.length : Int) < (xs.length : Int)) = false := decide_eq_false (by omega)
      have hN := N1.out
      rw [List.take_length] at hN
      have N2 := Aside0.mk hN
      clear hN N1
      go_wp2
      go_ret
      exact ⟨B1.out, _, rfl, by rw [N2.out]; rfl⟩
set_option maxHeartbeats 2000000 in
set_option maxRecDepth 400000 in
theorem contains_smps (xs : List Smp) (A : Option Addr) (c : Nat) (w : World) (C : Kd.C kSmp w A xs.length xs) (hl : xs.length ≤ 1000) (hs : ∀ x ∈ xs, fitX x) :
    Calls Tryd.prog 24 #[.slice A xs.length c, .func (.func 25) #[] #[]] w fun e w' => e = .returned (.bool (xs.any fun x => !mayX x)) ∧ Below w.heap.size w w' := by
  have hi := index_smps xs A c w C hl hs
  clear C hs
  generalize (xs.any fun x => !mayX x) = r at hi ⊢
  go_enter Tryd.func24, Tryd.ntmps24
  go_wp2_with (first | (go_at_call 39; refine hi.mono ?_; rintro e w' ⟨hB, i, rfl, hd⟩))
  go_ret
  exact ⟨by rw [← hd]; rfl, hB⟩
/-- may a selector be: its parts, and how many words on closeness -/
def mayS (xs : List Smp) (n1 : Nat) : Bool := !(xs.length == 0) && (decide (xs.length ≤ 8) && (decide (n1 + 1 = xs.length) && !(xs.any fun x => !mayX x)))
set_option maxHeartbeats 4000000 in
set_option maxRecDepth 400000 in
theorem May_any (xs : List Smp) (A : Option Addr) (c : Nat) (A1 : Option Addr) (n1 c1 : Nat) (w : World) (C : Kd.C kSmp w A xs.length xs) (hl : xs.length ≤ 1000) (hn1 : n1 ≤ 9223372036854775807) (hs : ∀ x ∈ xs, fitX x) :
    Calls Tryd.prog 12 #[.agg #[.slice A xs.length c, .slice A1 n1 c1]] w fun e w' => e = .returned (.bool (mayS xs n1)) ∧ Below w.heap.size w w' := by
  have hu := Tryd.underlying25
  have HC := Aside0.mk (fun W (hW : Below w.heap.size w W) => contains_smps xs A c W (Kd.C_below C hW) hl hs)
  clear C hs
  obtain ⟨n, hn⟩ : ∃ n, xs.length = n := ⟨_, rfl⟩
  obtain ⟨r, hr⟩ : ∃ r, (xs.any fun x => !mayX x) = r := ⟨_, rfl⟩
  have HM : Aside0 (mayS xs n1 = (!(n == 0) && (decide (n ≤ 8) && (decide (n1 + 1 = n) && !r)))) := ⟨by unfold mayS; rw [hn, hr]⟩
  rw [hn] at HC hl ⊢
  rw [hr] at HC
  clear hn hr
  have fin : ∀ {W : World}, Below (w.alloc (.cells #[.slice A n c, .slice A1 n1 c1] 25)).heap.size (w.alloc (.cells #[.slice A n c, .slice A1 n1 c1] 25)) W → Below w.heap.size w W := fun hB => below_then (below_alloc (Below.refl _ _) _) (Nat.le_trans (Nat.le_succ _) (Nat.le_of_eq (alloc_size _ _).symm)) hB
  by_cases z0 : n = 0
  · subst z0
    go_enter Tryd.func12, Tryd.ntmps12
    go_wp2
    go_ret
    exact ⟨by rw [HM.out]; rfl, below_alloc (Below.refl _ _) _⟩
  · have e0 : (((n : Nat) : Int) == 0) = false := beq_eq_false_iff_ne.2 (by omega)
    have f0 : (n == 0) = false := beq_eq_false_iff_ne.2 z0
    by_cases z8 : n ≤ 8
    · have e8 : decide ((8 : Int) < (n : Int)) = false := decide_eq_false (by omega)
      by_cases z1 : n1 + 1 = n
      · have e1 : (((n1 : Nat) : Int) == wrap64 ((n : Int) - 1)) = true := beq_iff_eq.2 (by unfold wrap64; omega)
        go_enter Tryd.func12, Tryd.ntmps12
        go_wp2_with (first | (go_at_call 24; refine (HC.out _ (by repeat (first | exact Below.refl _ _ | apply below_alloc | apply below_drew1 | apply pw_below_drewN))).mono ?_; rintro e w' ⟨rfl, hB⟩))
        go_ret
        exact ⟨by rw [HM.out, f0, decide_eq_true z8, decide_eq_true z1]; rfl, fin hB⟩
      · have e1 : (((n1 : Nat) : Int) == wrap64 ((n : Int) - 1)) = false := beq_eq_false_iff_ne.2 (by unfold wrap64; omega)
        go_enter Tryd.func12, Tryd.ntmps12
        go_wp2
        go_ret
        exact ⟨by rw [HM.out, f0, decide_eq_true z8, decide_eq_false z1]; rfl, below_alloc (Below.refl _ _) _⟩
    · have e8 : decide ((8 : Int) < (n : Int)) = true := decide_eq_true (by omega)
      go_enter Tryd.func12, Tryd.ntmps12
      go_wp2
      go_ret
      exact ⟨by rw [HM.out, f0, decide_eq_false z8]; rfl, below_alloc (Below.refl _ _) _⟩
end Go.Proofs.Tok
