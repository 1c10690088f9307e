/- selector.May: contracts proved by walking its text; no condition beside those that each theorem states. -/
import Derived.Test.YtolfpgccebdlpaaGreatDoorMay
import Derived.Test.YtolfpgccebdlpaaGreatDoorScE
set_option linter.unusedVariables false
set_option linter.unusedSimpArgs false
namespace Go.Proofs.Tok
open Go.RowKit Go.Lib Go.Proofs.YtolfpgccebdlpaaGreatDoorW.PrintWords Go.Proofs.YtolfpgccebdlpaaGreatDoorW.PrintLast Go.Proofs.YtolfpgccebdlpaaGreatDoorW.PrintMore
abbrev Smp := ByteArray × List ByteArray × List ByteArray × Bool × Bool
def kSmp : Kd Smp := Kd.pair Kd.string (Kd.pair (Kd.slice 9 Kd.string) (Kd.pair (Kd.slice 9 Kd.string) (Kd.pair Kd.bool Kd.bool)))
def zSmp : Smp := (⟨#[]⟩, [], [], false, false)
theorem kSmp_open {w : World} {x : Smp} {cs : List Value} (h : kSmp.K w x cs) : ∃ A1 c1 A2 c2, cs = [.string x.1, .slice A1 x.2.1.length c1, .slice A2 x.2.2.1.length c2, .bool x.2.2.2.1, .bool x.2.2.2.2] ∧ x.2.1.length ≤ c1 ∧ Kd.string.C w A1 x.2.1.length x.2.1 ∧ x.2.2.1.length ≤ c2 ∧ Kd.string.C w A2 x.2.2.1.length x.2.2.1 := by
  obtain ⟨_, _, rfl, rfl, ⟨_, _, rfl, ⟨A1, c1, rfl, l1, g1⟩, ⟨_, _, rfl, ⟨A2, c2, rfl, l2, g2⟩, ⟨_, _, rfl, rfl, rfl⟩⟩⟩⟩ := h
  exact ⟨A1, c1, A2, c2, rfl, l1, g1, l2, g2⟩
theorem at_Smp {w : World} {A : Option Addr} {n : Nat} {xs : List Smp} (h : Kd.C kSmp w A n xs) (k : Nat) (hk : k < n) (hx : k < xs.length) : ∃ ad A1 c1 A2 c2, A = some ad ∧ w.cell? (ad.add (k * 5)) = some (.string xs[k].1) ∧ w.cell? ⟨(ad.add (k * 5)).block, (ad.add (k * 5)).off + 1, none⟩ = some (.slice A1 xs[k].2.1.length c1) ∧ w.cell? ⟨(ad.add (k * 5)).block, (ad.add (k * 5)).off + 2, none⟩ = some (.slice A2 xs[k].2.2.1.length c2) ∧ w.cell? ⟨(ad.add (k * 5)).block, (ad.add (k * 5)).off + 3, none⟩ = some (.bool xs[k].2.2.2.1) ∧ w.cell? ⟨(ad.add (k * 5)).block, (ad.add (k * 5)).off + 4, none⟩ = some (.bool xs[k].2.2.2.2) ∧ xs[k].2.1.length ≤ c1 ∧ Kd.string.C w A1 xs[k].2.1.length xs[k].2.1 ∧ xs[k].2.2.1.length ≤ c2 ∧ Kd.string.C w A2 xs[k].2.2.1.length xs[k].2.2.1 := by
  obtain ⟨ad, c, e, _, hK, hc0⟩ := Kd.C_get h zSmp (k : Int) (by omega) (by omega)
  have hg : xs.getD (k : Int).toNat zSmp = xs[k] := by rw [Int.toNat_natCast, List.getD, List.getElem?_eq_getElem hx]; rfl
  rw [hg] at hK
  have hc : ∀ j u, c[j]? = some u → w.cell? (ad.add (k * 5 + j)) = some u := hc0
  obtain ⟨A1, c1, A2, c2, rfl, l1, g1, l2, g2⟩ := kSmp_open hK
  exact ⟨ad, A1, c1, A2, c2, e, hc 0 _ rfl, by rw [← add_field _ _ 1 (by omega)]; exact hc 1 _ rfl, by rw [← add_field _ _ 2 (by omega)]; exact hc 2 _ rfl, by rw [← add_field _ _ 3 (by omega)]; exact hc 3 _ rfl, by rw [← add_field _ _ 4 (by omega)]; exact hc 4 _ rfl, l1, g1, l2, g2⟩
def mayX (x : Smp) : Bool := mayV x.1 x.2.1 x.2.2.1 x.2.2.2.1 x.2.2.2.2
def fitX (x : Smp) : Prop := (x.2.1.length + x.2.2.1.length) * 16 ≤ 140737488355328 ∧ x.1.size < 4294967281 ∧ ∀ s ∈ x.2.1 ++ x.2.2.1, s.size < 4294967281
set_option maxHeartbeats 4000000 in
set_option maxRecDepth 400000 in
theorem mayp_any (x : Smp) (hx : fitX x) (A1 : Option Addr) (c1 : Nat) (A2 : Option Addr) (c2 : Nat) (w : World) (C1 : Kd.C Kd.string w A1 x.2.1.length x.2.1) (C2 : Kd.C Kd.string w A2 x.2.2.1.length x.2.2.1) :
    Calls Tryz.prog 51 #[.agg #[.string x.1, .slice A1 x.2.1.length c1, .slice A2 x.2.2.1.length c2, .bool x.2.2.2.1, .bool x.2.2.2.2]] w fun e w' => e = .returned (.bool (!mayX x)) ∧ Below w.heap.size w w' := by
  obtain ⟨t, l1, l2, b3, b4⟩ := x
  obtain ⟨hl, ht, hs⟩ := hx
  simp only at C1 C2 hl ht hs
  have hm := fun W hW => may_any t A1 c1 l1 A2 c2 l2 b3 b4 W (Kd.C_below C1 hW) (Kd.C_below C2 hW) hl ht hs
  have hX : mayX (t, l1, l2, b3, b4) = mayV t l1 l2 b3 b4 := rfl
  rw [hX]
  clear hX hs C1 C2 hl
  generalize mayV t l1 l2 b3 b4 = r at hm ⊢
  have hu44 := Tryz.underlying80
  have HM := Aside0.mk hm
  clear hm
  go_enter Tryz.func51, Tryz.ntmps51
  go_wp2_with (first | (go_at_call 52; refine (HM.out _ (by repeat (first | exact Below.refl _ _ | apply below_alloc))).mono ?_; rintro e w' ⟨rfl, hB⟩))
  go_ret
  exact ⟨rfl, below_then (below_alloc (Below.refl _ _) _) (Nat.le_trans (Nat.le_succ _) (Nat.le_of_eq (alloc_size _ _).symm)) hB⟩
set_option maxHeartbeats 4000000 in
set_option maxRecDepth 400000 in
theorem index_smps (xs : List Smp) (A : Option Addr) (c : Nat) (w : World) (C : Kd.C kSmp w A xs.length xs) (hl : xs.length ≤ 1000) (hs : ∀ x ∈ xs, fitX x) :
    Calls Tryz.prog 92 #[.slice A xs.length c, .func (.func 51) #[] #[]] w fun e w' => Below w.heap.size w w' ∧ ∃ i : Int, e = .returned (.int .i64 i) ∧ decide (0 ≤ i) = xs.any fun x => !mayX x := by
  have C0 := Aside0.mk C
  have HS := Aside0.mk hs
  clear C hs
  have hu44 := Tryz.underlying80
  go_enter Tryz.func92, Tryz.ntmps92
  go_wp2
  go_loopw [5, 8, 9, 10, 11, 12, 13, 14, 15, 16, 18] (fun _ i _ _ _ _ _ _ _ _ _ wr => ∃ k : Nat, k ≤ xs.length ∧ i = .int .i64 k ∧ Aside0 (((xs.take k).any fun x => !mayX x) = false) ∧ Aside0 (Below w.heap.size w wr)) (fun _ i _ _ _ _ _ _ _ _ _ _ => xs.length - (RowKit.intOf i).toNat)
  case atStart => exact ⟨0, Nat.zero_le _, rfl, ⟨rfl⟩, ⟨Below.refl _ _⟩⟩
  case round =>
    obtain ⟨k, hk, rfl, N1, B1⟩ := hrel
    by_cases hlt : k < xs.length
    · have g1 : decide ((k : Int) < (xs.length : Int)) = true := decide_eq_true (by omega)
      obtain ⟨ad, A1, c1, A2, c2, e, h0, h1, h2, h3, h4, q1, C1, q2, C2⟩ := at_Smp C0.out k hlt hlt
      subst e
      have hB := fun (p : Addr) (v : Value) (h : w.cell? p = some v) => (B1.out.cell (World.block_lt_of_cell? _ _ h)).trans h
      have k0 := hB _ _ h0
      have k1 := hB _ _ h1
      have k2 := hB _ _ h2
      have k3 := hB _ _ h3
      have k4 := hB _ _ h4
      have hx := fun W hW => mayp_any xs[k] (HS.out _ (List.getElem_mem hlt)) A1 c1 A2 c2 W (Kd.C_below C1 hW) (Kd.C_below C2 hW)
      have T1 : Aside0 (((xs.take (k + 1)).any fun x => !mayX x) = (((xs.take k).any fun x => !mayX x) || !mayX xs[k])) := ⟨by rw [List.take_succ_eq_append_getElem hlt, List.any_append]; simp⟩
      have T2 : Aside0 (mayX xs[k] = false → (xs.any fun x => !mayX x) = true) := ⟨fun h => List.any_eq_true.2 ⟨xs[k], List.getElem_mem hlt, by rw [h]; rfl⟩⟩
      clear h0 h1 h2 h3 h4 hB q1 q2 C1 C2
      generalize xs[k] = x at hx k0 k1 k2 k3 k4 T1 T2
      obtain ⟨b, hb⟩ : ∃ b, mayX x = b := ⟨_, rfl⟩
      have HN := Aside0.mk hb
      rw [hb] at hx
      have HX := Aside0.mk hx
      clear hb hx
      cases b with
      | false =>
        go_wp2_with (first | (go_at_call 51; refine (HX.out _ B1.out).mono ?_; rintro e w' ⟨rfl, hB⟩))
        go_ret
        exact ⟨below_then B1.out B1.out.size hB, _, rfl, by rw [T2.out HN.out]; simp⟩
      | true =>
        go_wp2_with (first | (go_at_call 51; refine (HX.out _ B1.out).mono ?_; rintro e w' ⟨rfl, hB⟩))
        exact ⟨⟨k + 1, by omega, by go_num, ⟨by rw [T1.out, N1.out, HN.out]; rfl⟩, ⟨below_then B1.out B1.out.size hB⟩⟩, by simp [RowKit.intOf]; omega⟩
    · obtain rfl : k = xs.length := by omega
      have g1 : decide ((xs.length : Int) < (xs.length : Int)) = false := decide_eq_false (by omega)
      have hN := N1.out
      rw [List.take_length] at hN
      have N2 := Aside0.mk hN
      clear hN N1
      go_wp2
      go_ret
      exact ⟨B1.out, _, rfl, by rw [N2.out]; rfl⟩
set_option maxHeartbeats 2000000 in
set_option maxRecDepth 400000 in
theorem contains_smps (xs : List Smp) (A : Option Addr) (c : Nat) (w : World) (C : Kd.C kSmp w A xs.length xs) (hl : xs.length ≤ 1000) (hs : ∀ x ∈ xs, fitX x) :
    Calls Tryz.prog 50 #[.slice A xs.length c, .func (.func 51) #[] #[]] w fun e w' => e = .returned (.bool (xs.any fun x => !mayX x)) ∧ Below w.heap.size w w' := by
  have hi := index_smps xs A c w C hl hs
  clear C hs
  generalize (xs.any fun x => !mayX x) = r at hi ⊢
  go_enter Tryz.func50, Tryz.ntmps50
  go_wp2_with (first | (go_at_call 92; refine hi.mono ?_; rintro e w' ⟨hB, i, rfl, hd⟩))
  go_ret
  exact ⟨by rw [← hd]; rfl, hB⟩
def mayS (xs : List Smp) (n1 : Nat) : Bool := !(xs.length == 0) && (decide (xs.length ≤ 8) && (decide (n1 + 1 = xs.length) && !(xs.any fun x => !mayX x)))
set_option maxHeartbeats 4000000 in
set_option maxRecDepth 400000 in
theorem May_any (xs : List Smp) (A : Option Addr) (c : Nat) (A1 : Option Addr) (n1 c1 : Nat) (w : World) (C : Kd.C kSmp w A xs.length xs) (hl : xs.length ≤ 1000) (hn1 : n1 ≤ 9223372036854775807) (hs : ∀ x ∈ xs, fitX x) :
    Calls Tryz.prog 17 #[.agg #[.slice A xs.length c, .slice A1 n1 c1]] w fun e w' => e = .returned (.bool (mayS xs n1)) ∧ Below w.heap.size w w' := by
  have hu := Tryz.underlying25
  have HC := Aside0.mk (fun W (hW : Below w.heap.size w W) => contains_smps xs A c W (Kd.C_below C hW) hl hs)
  clear C hs
  obtain ⟨n, hn⟩ : ∃ n, xs.length = n := ⟨_, rfl⟩
  obtain ⟨r, hr⟩ : ∃ r, (xs.any fun x => !mayX x) = r := ⟨_, rfl⟩
  have HM : Aside0 (mayS xs n1 = (!(n == 0) && (decide (n ≤ 8) && (decide (n1 + 1 = n) && !r)))) := ⟨by unfold mayS; rw [hn, hr]⟩
  rw [hn] at HC hl ⊢
  rw [hr] at HC
  clear hn hr
  have fin : ∀ {W : World}, Below (w.alloc (.cells #[.slice A n c, .slice A1 n1 c1] 25)).heap.size (w.alloc (.cells #[.slice A n c, .slice A1 n1 c1] 25)) W → Below w.heap.size w W := fun hB => below_then (below_alloc (Below.refl _ _) _) (Nat.le_trans (Nat.le_succ _) (Nat.le_of_eq (alloc_size _ _).symm)) hB
  by_cases z0 : n = 0
  · subst z0
    go_enter Tryz.func17, Tryz.ntmps17
    go_wp2
    go_ret
    exact ⟨by rw [HM.out]; rfl, below_alloc (Below.refl _ _) _⟩
  · have e0 : (((n : Nat) : Int) == 0) = false := beq_eq_false_iff_ne.2 (by omega)
    have f0 : (n == 0) = false := beq_eq_false_iff_ne.2 z0
    by_cases z8 : n ≤ 8
    · have e8 : decide ((8 : Int) < (n : Int)) = false := decide_eq_false (by omega)
      by_cases z1 : n1 + 1 = n
      · have e1 : (((n1 : Nat) : Int) == wrap64 ((n : Int) - 1)) = true := beq_iff_eq.2 (by unfold wrap64; omega)
        go_enter Tryz.func17, Tryz.ntmps17
        go_wp2_with (first | (go_at_call 50; refine (HC.out _ (by repeat (first | exact Below.refl _ _ | apply below_alloc | apply below_drew1 | apply pw_below_drewN))).mono ?_; rintro e w' ⟨rfl, hB⟩))
        go_ret
        exact ⟨by rw [HM.out, f0, decide_eq_true z8, decide_eq_true z1]; rfl, fin hB⟩
      · have e1 : (((n1 : Nat) : Int) == wrap64 ((n : Int) - 1)) = false := beq_eq_false_iff_ne.2 (by unfold wrap64; omega)
        go_enter Tryz.func17, Tryz.ntmps17
        go_wp2
        go_ret
        exact ⟨by rw [HM.out, f0, decide_eq_true z8, decide_eq_false z1]; rfl, below_alloc (Below.refl _ _) _⟩
    · have e8 : decide ((8 : Int) < (n : Int)) = true := decide_eq_true (by omega)
      go_enter Tryz.func17, Tryz.ntmps17
      go_wp2
      go_ret
      exact ⟨by rw [HM.out, f0, decide_eq_false z8]; rfl, below_alloc (Below.refl _ _) _⟩
end Go.Proofs.Tok
set_option linter.unusedVariables false
set_option linter.unusedSimpArgs false
namespace Go.Proofs.Scn
open Go.Lib
abbrev bl : List UInt8 := [32, 9, 10, 13]
abbrev isB (c : UInt8) : Bool := bl.contains c
def trimL (l : List UInt8) : List UInt8 := Lib.trimS l bl
theorem trimV_data (s : ByteArray) : (trimV s).data.toList = trimL s.data.toList := by simp [trimV, trimL]
theorem dw_cons_yes {p : UInt8 → Bool} {c : UInt8} {l : List UInt8} (h : p c = true) : (c :: l).dropWhile p = l.dropWhile p := by simp [List.dropWhile, h]
theorem dw_cons_no {p : UInt8 → Bool} {c : UInt8} {l : List UInt8} (h : p c = false) : (c :: l).dropWhile p = c :: l := by simp [List.dropWhile, h]
theorem dw_nil {p : UInt8 → Bool} : ∀ {l : List UInt8}, l.dropWhile p = [] ↔ ∀ c ∈ l, p c = true
  | [] => by simp
  | c :: t => by
    cases h : p c with
    | true =>
      rw [dw_cons_yes h, dw_nil]
      simp [h]
    | false =>
      rw [dw_cons_no h]
      simp [h]
theorem right_snoc_no {l : List UInt8} {c : UInt8} (h : isB c = false) : Lib.trimRightS (l ++ [c]) bl = l ++ [c] := by
  unfold Lib.trimRightS
  rw [List.reverse_append]
  show (List.dropWhile _ (c :: l.reverse)).reverse = _
  rw [dw_cons_no h]
  simp
theorem right_cons {l : List UInt8} {c : UInt8} (h : Lib.trimRightS l bl ≠ []) : Lib.trimRightS (c :: l) bl = c :: Lib.trimRightS l bl := by
  unfold Lib.trimRightS at h ⊢
  rw [List.reverse_cons]
  have h2 : (l.reverse.dropWhile fun x => bl.contains x) ≠ [] := fun e => h (by rw [e]; rfl)
  rw [List.dropWhile_append]
  cases hd : (l.reverse.dropWhile fun x => bl.contains x) with
  | nil => exact absurd hd h2
  | cons a t => simp
theorem right_nil {l : List UInt8} (h : ∀ c ∈ l, isB c = true) : Lib.trimRightS l bl = [] := by
  unfold Lib.trimRightS
  rw [List.reverse_eq_nil_iff, dw_nil]
  intro c hc
  exact h c (List.mem_reverse.1 hc)
theorem right_none {l : List UInt8} (h : Lib.trimRightS l bl = []) : ∀ c ∈ l, isB c = true := by
  unfold Lib.trimRightS at h
  rw [List.reverse_eq_nil_iff, dw_nil] at h
  intro c hc
  exact h c (List.mem_reverse.2 hc)
theorem trim_cons {c : UInt8} {l : List UInt8} (h : isB c = true) : trimL (c :: l) = trimL l := by
  unfold trimL Lib.trimS
  by_cases e : Lib.trimRightS l bl = []
  · rw [e, right_nil (l := c :: l)]
    intro x hx
    rcases List.mem_cons.1 hx with rfl | hx
    · exact h
    · exact right_none e x hx
  · rw [right_cons e]
    unfold Lib.trimLeftS
    exact dw_cons_yes h
def tidy (l : List UInt8) : Prop := (∀ c, l.head? = some c → isB c = false) ∧ (∀ c, l.getLast? = some c → isB c = false)
theorem trim_tidy {l : List UInt8} (h : tidy l) : trimL l = l := by
  unfold trimL Lib.trimS
  have e : Lib.trimRightS l bl = l := by
    rcases List.eq_nil_or_concat l with rfl | ⟨t, c, rfl⟩
    · rfl
    · rw [List.concat_eq_append] at h ⊢
      exact right_snoc_no (h.2 c (by simp))
  rw [e]
  cases l with
  | nil => rfl
  | cons c t => exact dw_cons_no (h.1 c rfl)
theorem trim_len (l : List UInt8) : (trimL l).length ≤ l.length := by
  unfold trimL Lib.trimS
  refine Nat.le_trans (trimLeft_le _ _) ?_
  unfold Lib.trimRightS
  rw [List.length_reverse]
  refine Nat.le_trans (List.dropWhile_sublist _).length_le ?_
  simp
theorem lowV_data (s : ByteArray) : (lowV s).data.toList = s.data.toList.map lowB := by simp [lowV]
theorem ba_ext {s t : ByteArray} (h : s.data.toList = t.data.toList) : s = t := by
  cases s; cases t
  simp at h
  rw [h]
end Go.Proofs.Scn
set_option linter.unusedVariables false
set_option linter.unusedSimpArgs false
namespace Go.Proofs.Tok
open Go.RowKit Go.Lib Go.Proofs.YtolfpgccebdlpaaGreatDoorW.PrintWords Go.Proofs.YtolfpgccebdlpaaGreatDoorW.PrintLast Go.Proofs.YtolfpgccebdlpaaGreatDoorW.PrintMore
theorem take_eq {α : Type} {xs ys : List α} {k : Nat} (h : xs.take k = ys.take k) (hx : k < xs.length) (hy : k < ys.length) (e : xs[k] = ys[k]) : xs.take (k + 1) = ys.take (k + 1) := by
  rw [List.take_succ_eq_append_getElem hx, List.take_succ_eq_append_getElem hy, h, e]
theorem str_cell {w : World} {A : Option Addr} {n : Nat} {xs : List ByteArray} (h : Kd.C Kd.string w A n xs) (k : Nat) (hk : k < n) (hx : k < xs.length) : ∃ ad, A = some ad ∧ w.cell? (ad.add k) = some (.string xs[k]) := by
  obtain ⟨ad, e, hc⟩ := Kd.at_string h (k : Int) (by omega) (by omega)
  have hg : rdOf ByteArray.empty xs (k : Int) = xs[k] := by
    unfold rdOf
    rw [Int.toNat_natCast, List.getD, List.getElem?_eq_getElem hx]
    rfl
  rw [hg, Int.toNat_natCast] at hc
  exact ⟨ad, e, hc⟩
theorem bool_cell {w : World} {A : Option Addr} {n : Nat} {xs : List Bool} (h : Kd.C Kd.bool w A n xs) (k : Nat) (hk : k < n) (hx : k < xs.length) : ∃ ad, A = some ad ∧ w.cell? (ad.add k) = some (.bool xs[k]) := by
  obtain ⟨ad, e, hc⟩ := Kd.at_bool h (k : Int) (by omega) (by omega)
  have hg : rdOf false xs (k : Int) = xs[k] := by
    unfold rdOf
    rw [Int.toNat_natCast, List.getD, List.getElem?_eq_getElem hx]
    rfl
  rw [hg, Int.toNat_natCast] at hc
  exact ⟨ad, e, hc⟩
set_option maxHeartbeats 4000000 in
set_option maxRecDepth 400000 in
theorem eq_strs (xs ys : List ByteArray) (A0 A1 : Option Addr) (c0 c1 : Nat) (w : World) (C0 : Kd.C Kd.string w A0 xs.length xs) (C1 : Kd.C Kd.string w A1 ys.length ys) (hl : xs.length ≤ 9223372036854775807) (hl1 : ys.length ≤ 9223372036854775807) :
    Calls Tryz.prog 61 #[.slice A0 xs.length c0, .slice A1 ys.length c1] w fun e w' => e = .returned (.bool (decide (xs = ys))) ∧ Drawn0 w w' := by
  have D0 := Aside0.mk C0
  have D1 := Aside0.mk C1
  clear C0 C1
  by_cases hn : xs.length = ys.length
  · have HN := Aside0.mk hn
    have e0 : (((xs.length : Nat) : Int) == ((xs.length : Nat) : Int)) = true := by simp
    rw [← hn]
    obtain ⟨r, hr⟩ : ∃ r, decide (xs = ys) = r := ⟨_, rfl⟩
    have HR := Aside0.mk hr
    rw [hr]
    clear hr hn hl1
    obtain ⟨n, hn⟩ : ∃ n, xs.length = n := ⟨_, rfl⟩
    have HX := Aside0.mk hn
    rw [hn] at HN e0 hl ⊢
    clear hn
    go_enter Tryz.func61, Tryz.ntmps61
    go_wp2
    go_loopw [5, 13, 14, 15, 16, 17, 18, 19, 20, 21, 22, 23, 24, 25] (fun _ i _ _ _ _ _ _ _ _ _ _ _ _ wr => ∃ k : Nat, k ≤ n ∧ i = .int .i64 k ∧ Aside0 (xs.take k = ys.take k) ∧ Aside0 (Drawn0 w wr)) (fun _ i _ _ _ _ _ _ _ _ _ _ _ _ _ => n - (RowKit.intOf i).toNat)
    case atStart => exact ⟨0, Nat.zero_le _, rfl, ⟨rfl⟩, ⟨Drawn0.refl _⟩⟩
    case round =>
      obtain ⟨k, hk, rfl, T1, B1⟩ := hrel
      by_cases hlt : k < n
      · have g1 : decide ((k : Int) < (n : Int)) = true := decide_eq_true (by omega)
        have hx : k < xs.length := by rw [HX.out]; exact hlt
        have hy : k < ys.length := by rw [← HN.out]; exact hlt
        obtain ⟨a0, ea0, h0⟩ := str_cell D0.out k hx hx
        obtain ⟨a1, ea1, h1⟩ := str_cell D1.out k hy hy
        subst ea0
        subst ea1
        obtain ⟨nd, rfl⟩ := B1.out
        have p1 : ((k : Int) < (n : Int)) := by omega
        have TN : Aside0 (xs[k] = ys[k] → xs.take (k + 1) = ys.take (k + 1)) := ⟨fun e => take_eq T1.out hx hy e⟩
        have TX : Aside0 (xs[k] ≠ ys[k] → xs ≠ ys) := ⟨fun h e => h (by subst e; rfl)⟩
        generalize xs[k] = x at h0 TN TX
        generalize ys[k] = y at h1 TN TX
        by_cases hxy : x = y
        · have e1 : (x.toList == y.toList) = true := by rw [hxy]; simp
          have HE := Aside0.mk hxy
          clear hxy hx hy
          go_wp2
          go_quiet (fail)
          go_wp2
          exact ⟨⟨k + 1, by omega, by go_num, ⟨TN.out HE.out⟩, ⟨by repeat (first | exact Drawn0.refl _ | apply Drawn0.step | exact ⟨_, rfl⟩)⟩⟩, by simp [RowKit.intOf]; omega⟩
        · have e1 : (x.toList == y.toList) = false := beq_eq_false_iff_ne.2 (fun h => hxy (by rw [Lib.toList_data, Lib.toList_data] at h; exact Scn.ba_ext h))
          have HE := Aside0.mk hxy
          clear hxy hx hy
          go_wp2
          go_quiet (fail)
          go_wp2
          go_ret
          exact ⟨by rw [← HR.out, decide_eq_false (TX.out HE.out)]; rfl, by repeat (first | exact Drawn0.refl _ | apply Drawn0.step | exact ⟨_, rfl⟩)⟩
      · obtain rfl : k = n := by omega
        have g1 : decide ((k : Int) < (k : Int)) = false := decide_eq_false (by omega)
        have hT := T1.out
        rw [← HX.out, List.take_length, HX.out, HN.out, List.take_length] at hT
        have HT := Aside0.mk hT
        clear hT T1
        go_wp2
        go_ret
        exact ⟨by rw [← HR.out, decide_eq_true HT.out]; rfl, B1.out⟩
  · have e0 : (((xs.length : Nat) : Int) == ((ys.length : Nat) : Int)) = false := beq_eq_false_iff_ne.2 (by omega)
    rw [decide_eq_false (fun e : xs = ys => hn (by rw [e]))]
    generalize xs.length = n at e0 hn ⊢
    generalize ys.length = m at e0 hn ⊢
    go_enter Tryz.func61, Tryz.ntmps61
    go_wp2
    go_ret
    exact ⟨rfl, Drawn0.refl _⟩
set_option maxHeartbeats 4000000 in
set_option maxRecDepth 400000 in
theorem eq_bools (xs ys : List Bool) (A0 A1 : Option Addr) (c0 c1 : Nat) (w : World) (C0 : Kd.C Kd.bool w A0 xs.length xs) (C1 : Kd.C Kd.bool w A1 ys.length ys) (hl : xs.length ≤ 9223372036854775807) (hl1 : ys.length ≤ 9223372036854775807) :
    Calls Tryz.prog 63 #[.slice A0 xs.length c0, .slice A1 ys.length c1] w fun e w' => e = .returned (.bool (decide (xs = ys))) ∧ Drawn0 w w' := by
  have D0 := Aside0.mk C0
  have D1 := Aside0.mk C1
  clear C0 C1
  by_cases hn : xs.length = ys.length
  · have HN := Aside0.mk hn
    have e0 : (((xs.length : Nat) : Int) == ((xs.length : Nat) : Int)) = true := by simp
    rw [← hn]
    obtain ⟨r, hr⟩ : ∃ r, decide (xs = ys) = r := ⟨_, rfl⟩
    have HR := Aside0.mk hr
    rw [hr]
    clear hr hn hl1
    obtain ⟨n, hn⟩ : ∃ n, xs.length = n := ⟨_, rfl⟩
    have HX := Aside0.mk hn
    rw [hn] at HN e0 hl ⊢
    clear hn
    go_enter Tryz.func63, Tryz.ntmps63
    go_wp2
    go_loopw [5, 13, 14, 15, 16, 17, 18, 19, 20, 21, 22, 23, 24, 25] (fun _ i _ _ _ _ _ _ _ _ _ _ _ _ wr => ∃ k : Nat, k ≤ n ∧ i = .int .i64 k ∧ Aside0 (xs.take k = ys.take k) ∧ Aside0 (Drawn0 w wr)) (fun _ i _ _ _ _ _ _ _ _ _ _ _ _ _ => n - (RowKit.intOf i).toNat)
    case atStart => exact ⟨0, Nat.zero_le _, rfl, ⟨rfl⟩, ⟨Drawn0.refl _⟩⟩
    case round =>
      obtain ⟨k, hk, rfl, T1, B1⟩ := hrel
      by_cases hlt : k < n
      · have g1 : decide ((k : Int) < (n : Int)) = true := decide_eq_true (by omega)
        have hx : k < xs.length := by rw [HX.out]; exact hlt
        have hy : k < ys.length := by rw [← HN.out]; exact hlt
        obtain ⟨a0, ea0, h0⟩ := bool_cell D0.out k hx hx
        obtain ⟨a1, ea1, h1⟩ := bool_cell D1.out k hy hy
        subst ea0
        subst ea1
        obtain ⟨nd, rfl⟩ := B1.out
        have p1 : ((k : Int) < (n : Int)) := by omega
        have TN : Aside0 (xs[k] = ys[k] → xs.take (k + 1) = ys.take (k + 1)) := ⟨fun e => take_eq T1.out hx hy e⟩
        have TX : Aside0 (xs[k] ≠ ys[k] → xs ≠ ys) := ⟨fun h e => h (by subst e; rfl)⟩
        generalize xs[k] = x at h0 TN TX
        generalize ys[k] = y at h1 TN TX
        by_cases hxy : x = y
        · have e1 : (x == y) = true := beq_iff_eq.2 hxy
          have e2 : (x != y) = false := by rw [hxy]; simp
          have e3 : (x = y) = True := eq_true hxy
          have HE := Aside0.mk hxy
          clear hxy hx hy
          go_wp2
          go_quiet (fail)
          go_wp2
          exact ⟨⟨k + 1, by omega, by go_num, ⟨TN.out HE.out⟩, ⟨by repeat (first | exact Drawn0.refl _ | apply Drawn0.step | exact ⟨_, rfl⟩)⟩⟩, by simp [RowKit.intOf]; omega⟩
        · have e1 : (x == y) = false := beq_eq_false_iff_ne.2 hxy
          have e2 : (x != y) = true := bne_iff_ne.2 hxy
          have e3 : (x = y) = False := eq_false hxy
          have HE := Aside0.mk hxy
          clear hxy hx hy
          go_wp2
          go_quiet (fail)
          go_wp2
          go_ret
          exact ⟨by rw [← HR.out, decide_eq_false (TX.out HE.out)]; rfl, by repeat (first | exact Drawn0.refl _ | apply Drawn0.step | exact ⟨_, rfl⟩)⟩
      · obtain rfl : k = n := by omega
        have g1 : decide ((k : Int) < (k : Int)) = false := decide_eq_false (by omega)
        have hT := T1.out
        rw [← HX.out, List.take_length, HX.out, HN.out, List.take_length] at hT
        have HT := Aside0.mk hT
        clear hT T1
        go_wp2
        go_ret
        exact ⟨by rw [← HR.out, decide_eq_true HT.out]; rfl, B1.out⟩
  · have e0 : (((xs.length : Nat) : Int) == ((ys.length : Nat) : Int)) = false := beq_eq_false_iff_ne.2 (by omega)
    rw [decide_eq_false (fun e : xs = ys => hn (by rw [e]))]
    generalize xs.length = n at e0 hn ⊢
    generalize ys.length = m at e0 hn ⊢
    go_enter Tryz.func63, Tryz.ntmps63
    go_wp2
    go_ret
    exact ⟨rfl, Drawn0.refl _⟩
end Go.Proofs.Tok
namespace Go.Proofs.Tok
open Go.RowKit Go.Lib Go.Proofs.YtolfpgccebdlpaaGreatDoorW.PrintWords Go.Proofs.YtolfpgccebdlpaaGreatDoorW.PrintLast Go.Proofs.YtolfpgccebdlpaaGreatDoorW.PrintMore
set_option maxHeartbeats 4000000 in
set_option maxRecDepth 400000 in
theorem same1_any (x y : Smp) (A1 A2 B1 B2 : Option Addr) (c1 c2 d1 d2 : Nat) (w : World) (C1 : Kd.C Kd.string w A1 x.2.1.length x.2.1) (C2 : Kd.C Kd.string w A2 x.2.2.1.length x.2.2.1) (D1 : Kd.C Kd.string w B1 y.2.1.length y.2.1) (D2 : Kd.C Kd.string w B2 y.2.2.1.length y.2.2.1)
    (hl : x.2.1.length ≤ 1000000 ∧ x.2.2.1.length ≤ 1000000 ∧ y.2.1.length ≤ 1000000 ∧ y.2.2.1.length ≤ 1000000) :
    Calls Tryz.prog 60 #[.agg #[.string x.1, .slice A1 x.2.1.length c1, .slice A2 x.2.2.1.length c2, .bool x.2.2.2.1, .bool x.2.2.2.2], .agg #[.string y.1, .slice B1 y.2.1.length d1, .slice B2 y.2.2.1.length d2, .bool y.2.2.2.1, .bool y.2.2.2.2]] w fun e w' => e = .returned (.bool (decide (x = y))) ∧ Below w.heap.size w w' := by
  obtain ⟨t, l1, l2, b3, b4⟩ := x
  obtain ⟨t', l1', l2', b3', b4'⟩ := y
  simp only at C1 C2 D1 D2 hl
  have H1 := Aside0.mk (fun W (hW : Below w.heap.size w W) => eq_strs l1 l1' A1 B1 c1 d1 W (Kd.C_below C1 hW) (Kd.C_below D1 hW) (by omega) (by omega))
  have H2 := Aside0.mk (fun W (hW : Below w.heap.size w W) => eq_strs l2 l2' A2 B2 c2 d2 W (Kd.C_below C2 hW) (Kd.C_below D2 hW) (by omega) (by omega))
  clear C1 C2 D1 D2 hl
  have hu44 := Tryz.underlying80
  have HE : Aside0 (decide ((t, l1, l2, b3, b4) = ((t', l1', l2', b3', b4') : Smp)) = (decide (t = t') && (decide (l1 = l1') && (decide (l2 = l2') && (decide (b3 = b3') && decide (b4 = b4')))))) := ⟨by
    rw [Bool.eq_iff_iff]
    simp⟩
  obtain ⟨r, hr⟩ : ∃ r, decide ((t, l1, l2, b3, b4) = ((t', l1', l2', b3', b4') : Smp)) = r := ⟨_, rfl⟩
  rw [hr] at HE ⊢
  obtain ⟨r1, hr1⟩ : ∃ r1, decide (l1 = l1') = r1 := ⟨_, rfl⟩
  obtain ⟨r2, hr2⟩ : ∃ r2, decide (l2 = l2') = r2 := ⟨_, rfl⟩
  rw [hr1] at H1 HE
  rw [hr2] at H2 HE
  clear hr hr1 hr2
  generalize l1.length = n1 at H1 ⊢
  generalize l2.length = n2 at H2 ⊢
  generalize l1'.length = m1 at H1 ⊢
  generalize l2'.length = m2 at H2 ⊢
  have eb : ∀ b b' : Bool, (b == b') = decide (b = b') := by decide
  have HB4 : Aside0 (decide (b4 = b4') = (b4 == b4')) := ⟨(eb _ _).symm⟩
  by_cases ht : t = t'
  · have e0 : (t.toList == t'.toList) = true := by rw [ht]; simp
    have HT : Aside0 (decide (t = t') = true) := ⟨decide_eq_true ht⟩
    clear ht eb
    cases r1 with
    | true =>
      cases r2 with
      | true =>
        by_cases h3 : b3 = b3'
        · have e3 : (b3 == b3') = true := beq_iff_eq.2 h3
          have HB3 : Aside0 (decide (b3 = b3') = true) := ⟨decide_eq_true h3⟩
          clear h3
          as_aux_lemma =>
          go_enter Tryz.func60, Tryz.ntmps60
          go_wp2_with (first | (go_at_call 61; first | (with_reducible refine (H1.out _ (by repeat (first | exact Below.refl _ _ | apply below_alloc | apply below_drew1 | apply pw_below_drewN))).mono ?_; rintro e w' ⟨rfl, ⟨nd, rfl⟩⟩) | (with_reducible refine (H2.out _ (by repeat (first | exact Below.refl _ _ | apply below_alloc | apply below_drew1 | apply pw_below_drewN))).mono ?_; rintro e w' ⟨rfl, ⟨nd2, rfl⟩⟩)))
          go_ret
          exact ⟨by rw [HE.out, HT.out, HB3.out, HB4.out]; rfl, by repeat (first | exact Below.refl _ _ | apply below_alloc | apply below_drew1 | apply pw_below_drewN)⟩
        · have e3 : (b3 == b3') = false := beq_eq_false_iff_ne.2 h3
          have HB3 : Aside0 (decide (b3 = b3') = false) := ⟨decide_eq_false h3⟩
          clear h3
          as_aux_lemma =>
          go_enter Tryz.func60, Tryz.ntmps60
          go_wp2_with (first | (go_at_call 61; first | (with_reducible refine (H1.out _ (by repeat (first | exact Below.refl _ _ | apply below_alloc | apply below_drew1 | apply pw_below_drewN))).mono ?_; rintro e w' ⟨rfl, ⟨nd, rfl⟩⟩) | (with_reducible refine (H2.out _ (by repeat (first | exact Below.refl _ _ | apply below_alloc | apply below_drew1 | apply pw_below_drewN))).mono ?_; rintro e w' ⟨rfl, ⟨nd2, rfl⟩⟩)))
          go_ret
          exact ⟨by rw [HE.out, HT.out, HB3.out]; rfl, by repeat (first | exact Below.refl _ _ | apply below_alloc | apply below_drew1 | apply pw_below_drewN)⟩
      | false =>
        as_aux_lemma =>
        go_enter Tryz.func60, Tryz.ntmps60
        go_wp2_with (first | (go_at_call 61; first | (with_reducible refine (H1.out _ (by repeat (first | exact Below.refl _ _ | apply below_alloc | apply below_drew1 | apply pw_below_drewN))).mono ?_; rintro e w' ⟨rfl, ⟨nd, rfl⟩⟩) | (with_reducible refine (H2.out _ (by repeat (first | exact Below.refl _ _ | apply below_alloc | apply below_drew1 | apply pw_below_drewN))).mono ?_; rintro e w' ⟨rfl, ⟨nd2, rfl⟩⟩)))
        go_ret
        exact ⟨by rw [HE.out, HT.out]; rfl, by repeat (first | exact Below.refl _ _ | apply below_alloc | apply below_drew1 | apply pw_below_drewN)⟩
    | false =>
      as_aux_lemma =>
      go_enter Tryz.func60, Tryz.ntmps60
      go_wp2_with (first | (go_at_call 61; first | (with_reducible refine (H1.out _ (by repeat (first | exact Below.refl _ _ | apply below_alloc | apply below_drew1 | apply pw_below_drewN))).mono ?_; rintro e w' ⟨rfl, ⟨nd, rfl⟩⟩) | (with_reducible refine (H2.out _ (by repeat (first | exact Below.refl _ _ | apply below_alloc | apply below_drew1 | apply pw_below_drewN))).mono ?_; rintro e w' ⟨rfl, ⟨nd2, rfl⟩⟩)))
      go_ret
      exact ⟨by rw [HE.out, HT.out]; rfl, by repeat (first | exact Below.refl _ _ | apply below_alloc | apply below_drew1 | apply pw_below_drewN)⟩
  · have e0 : (t.toList == t'.toList) = false := beq_eq_false_iff_ne.2 (fun h => ht (by rw [Lib.toList_data, Lib.toList_data] at h; exact Scn.ba_ext h))
    have HT : Aside0 (decide (t = t') = false) := ⟨decide_eq_false ht⟩
    clear ht eb
    as_aux_lemma =>
    go_enter Tryz.func60, Tryz.ntmps60
    go_wp2_with (first | (go_at_call 61; first | (with_reducible refine (H1.out _ (by repeat (first | exact Below.refl _ _ | apply below_alloc | apply below_drew1 | apply pw_below_drewN))).mono ?_; rintro e w' ⟨rfl, ⟨nd, rfl⟩⟩) | (with_reducible refine (H2.out _ (by repeat (first | exact Below.refl _ _ | apply below_alloc | apply below_drew1 | apply pw_below_drewN))).mono ?_; rintro e w' ⟨rfl, ⟨nd2, rfl⟩⟩)))
    go_ret
    exact ⟨by rw [HE.out, HT.out]; rfl, by repeat (first | exact Below.refl _ _ | apply below_alloc | apply below_drew1 | apply pw_below_drewN)⟩
end Go.Proofs.Tok
namespace Go.Proofs.Tok
open Go.RowKit Go.Lib Go.Proofs.YtolfpgccebdlpaaGreatDoorW.PrintWords Go.Proofs.YtolfpgccebdlpaaGreatDoorW.PrintLast Go.Proofs.YtolfpgccebdlpaaGreatDoorW.PrintMore
theorem two_below {w wr w2 : World} {o p : Obj} (h : Below w.heap.size w wr) (hb : Below ((wr.alloc o).alloc p).heap.size ((wr.alloc o).alloc p) w2) : Below w.heap.size w w2 := by
  have hs := h.size
  refine below_then (below_alloc (below_alloc h _) _) ?_ hb
  rw [alloc_size, alloc_size]
  omega
def lenX (x : Smp) : Prop := x.2.1.length ≤ 1000000 ∧ x.2.2.1.length ≤ 1000000
set_option maxHeartbeats 1000000 in
set_option maxRecDepth 400000 in
theorem eq_smps (xs ys : List Smp) (A0 A1 : Option Addr) (c0 c1 : Nat) (w : World) (C0 : Kd.C kSmp w A0 xs.length xs) (C1 : Kd.C kSmp w A1 ys.length ys) (hl : xs.length ≤ 1000000) (hl1 : ys.length ≤ 1000000) (hx : ∀ x ∈ xs, lenX x) (hy : ∀ y ∈ ys, lenX y) :
    Calls Tryz.prog 62 #[.slice A0 xs.length c0, .slice A1 ys.length c1, .func (.func 60) #[] #[]] w fun e w' => e = .returned (.bool (decide (xs = ys))) ∧ Below w.heap.size w w' := by
  have D0 := Aside0.mk C0
  have D1 := Aside0.mk C1
  have L0 := Aside0.mk hx
  have L1 := Aside0.mk hy
  clear C0 C1 hx hy
  have hu44 := Tryz.underlying80
  by_cases hn : xs.length = ys.length
  · have HN := Aside0.mk hn
    have e0 : (((xs.length : Nat) : Int) == ((xs.length : Nat) : Int)) = true := by simp
    rw [← hn]
    obtain ⟨r, hr⟩ : ∃ r, decide (xs = ys) = r := ⟨_, rfl⟩
    have HR := Aside0.mk hr
    rw [hr]
    clear hr hn hl1
    obtain ⟨n, hn⟩ : ∃ n, xs.length = n := ⟨_, rfl⟩
    have HX := Aside0.mk hn
    rw [hn] at HN e0 hl ⊢
    clear hn
    go_enter Tryz.func62, Tryz.ntmps62
    go_wp2
    go_loopw [7, 8, 9, 17, 18, 19, 20, 21, 22, 23, 24, 25, 26, 27, 28, 29, 30, 31] (fun _ _ _ i _ _ _ _ _ _ _ _ _ _ _ _ _ _ wr => ∃ k : Nat, k ≤ n ∧ i = .int .i64 k ∧ Aside0 (xs.take k = ys.take k) ∧ Aside0 (Below w.heap.size w wr)) (fun _ _ _ i _ _ _ _ _ _ _ _ _ _ _ _ _ _ _ => n - (RowKit.intOf i).toNat)
    case atStart => exact ⟨0, Nat.zero_le _, rfl, ⟨rfl⟩, ⟨Below.refl _ _⟩⟩
    case round =>
      obtain ⟨k, hk, rfl, T1, B1⟩ := hrel
      by_cases hlt : k < n
      · have g1 : decide ((k : Int) < (n : Int)) = true := decide_eq_true (by omega)
        have hx : k < xs.length := by rw [HX.out]; exact hlt
        have hy : k < ys.length := by rw [← HN.out]; exact hlt
        obtain ⟨a0, U1, u1, U2, u2, ea0, h0, h1, h2, h3, h4, q1, F1, q2, F2⟩ := at_Smp D0.out k hx hx
        obtain ⟨a1, V1, v1, V2, v2, ea1, m0, m1, m2, m3, m4, q3, F3, q4, F4⟩ := at_Smp D1.out k hy hy
        subst ea0
        subst ea1
        have hB := fun (p : Addr) (v : Value) (h : w.cell? p = some v) => (B1.out.cell (World.block_lt_of_cell? _ _ h)).trans h
        have x0 := hB _ _ h0
        have x1 := hB _ _ h1
        have x2 := hB _ _ h2
        have x3 := hB _ _ h3
        have x4 := hB _ _ h4
        have y0 := hB _ _ m0
        have y1 := hB _ _ m1
        have y2 := hB _ _ m2
        have y3 := hB _ _ m3
        have y4 := hB _ _ m4
        have HS := Aside0.mk (fun W (hW : Below w.heap.size w W) => same1_any xs[k] ys[k] U1 U2 V1 V2 u1 u2 v1 v2 W (Kd.C_below F1 hW) (Kd.C_below F2 hW) (Kd.C_below F3 hW) (Kd.C_below F4 hW) ⟨(L0.out _ (List.getElem_mem hx)).1, (L0.out _ (List.getElem_mem hx)).2, (L1.out _ (List.getElem_mem hy)).1, (L1.out _ (List.getElem_mem hy)).2⟩)
        have TN : Aside0 (xs[k] = ys[k] → xs.take (k + 1) = ys.take (k + 1)) := ⟨fun e => take_eq T1.out hx hy e⟩
        have TX : Aside0 (xs[k] ≠ ys[k] → xs ≠ ys) := ⟨fun h e => h (by subst e; rfl)⟩
        clear h0 h1 h2 h3 h4 m0 m1 m2 m3 m4 q1 q2 q3 q4 F1 F2 F3 F4 hB
        generalize xs[k] = x at x0 x1 x2 x3 x4 HS TN TX
        generalize ys[k] = y at y0 y1 y2 y3 y4 HS TN TX
        clear hx hy
        have al := fun (p : Addr) (v : Value) (h : wr.cell? p = some v) => (World.cell?_alloc_lt wr (Obj.cells #[.string x.1, .slice U1 x.2.1.length u1, .slice U2 x.2.2.1.length u2, .bool x.2.2.2.1, .bool x.2.2.2.2] 80) p (World.block_lt_of_cell? _ _ h)).trans h
        have z0 := al _ _ y0
        have z1 := al _ _ y1
        have z2 := al _ _ y2
        have z3 := al _ _ y3
        have z4 := al _ _ y4
        clear al
        obtain ⟨b, hb⟩ : ∃ b, decide (x = y) = b := ⟨_, rfl⟩
        have HE := Aside0.mk hb
        rw [hb] at HS
        clear hb
        cases b with
        | true =>
          go_wp2_with (first | (go_at_call 60; with_reducible refine (HS.out _ (by repeat (first | exact B1.out | apply below_alloc))).mono ?_; rintro e w' ⟨rfl, hB⟩; have HBB := Aside0.mk (two_below B1.out hB); clear hB))
          exact ⟨⟨k + 1, by omega, by go_num, ⟨TN.out (of_decide_eq_true HE.out)⟩, HBB⟩, by simp [RowKit.intOf]; omega⟩
        | false =>
          go_wp2_with (first | (go_at_call 60; with_reducible refine (HS.out _ (by repeat (first | exact B1.out | apply below_alloc))).mono ?_; rintro e w' ⟨rfl, hB⟩; have HBB := Aside0.mk (two_below B1.out hB); clear hB))
          go_ret
          exact ⟨by rw [← HR.out, decide_eq_false (TX.out (of_decide_eq_false HE.out))]; rfl, HBB.out⟩
      · obtain rfl : k = n := by omega
        have g1 : decide ((k : Int) < (k : Int)) = false := decide_eq_false (by omega)
        have hT := T1.out
        rw [← HX.out, List.take_length, HX.out, HN.out, List.take_length] at hT
        have HT := Aside0.mk hT
        clear hT T1
        go_wp2
        go_ret
        exact ⟨by rw [← HR.out, decide_eq_true HT.out]; rfl, B1.out⟩
  · have e0 : (((xs.length : Nat) : Int) == ((ys.length : Nat) : Int)) = false := beq_eq_false_iff_ne.2 (by omega)
    rw [decide_eq_false (fun e : xs = ys => hn (by rw [e]))]
    generalize xs.length = n at e0 hn ⊢
    generalize ys.length = m at e0 hn ⊢
    go_enter Tryz.func62, Tryz.ntmps62
    go_wp2
    go_ret
    exact ⟨rfl, Below.refl _ _⟩
set_option maxHeartbeats 1000000 in
set_option maxRecDepth 400000 in
theorem Same_any (xs ys : List Smp) (bs cs : List Bool) (A0 A1 E0 E1 : Option Addr) (c0 c1 d0 d1 : Nat) (w : World) (C0 : Kd.C kSmp w A0 xs.length xs) (C1 : Kd.C kSmp w A1 ys.length ys) (D0 : Kd.C Kd.bool w E0 bs.length bs) (D1 : Kd.C Kd.bool w E1 cs.length cs) (hl : xs.length ≤ 1000000) (hl1 : ys.length ≤ 1000000) (hb : bs.length ≤ 1000000) (hc : cs.length ≤ 1000000) (hx : ∀ x ∈ xs, lenX x) (hy : ∀ y ∈ ys, lenX y) :
    Calls Tryz.prog 23 #[.agg #[.slice A0 xs.length c0, .slice E0 bs.length d0], .agg #[.slice A1 ys.length c1, .slice E1 cs.length d1]] w fun e w' => e = .returned (.bool (decide (xs = ys) && decide (bs = cs))) ∧ Below w.heap.size w w' := by
  have HS := Aside0.mk (fun W (hW : Below w.heap.size w W) => eq_smps xs ys A0 A1 c0 c1 W (Kd.C_below C0 hW) (Kd.C_below C1 hW) hl hl1 hx hy)
  have HB := Aside0.mk (fun W (hW : Below w.heap.size w W) => eq_bools bs cs E0 E1 d0 d1 W (Kd.C_below D0 hW) (Kd.C_below D1 hW) (by omega) (by omega))
  clear C0 C1 D0 D1 hx hy
  have hu25 := Tryz.underlying25
  obtain ⟨r1, hr1⟩ : ∃ r1, decide (xs = ys) = r1 := ⟨_, rfl⟩
  obtain ⟨r2, hr2⟩ : ∃ r2, decide (bs = cs) = r2 := ⟨_, rfl⟩
  rw [hr1] at HS ⊢
  rw [hr2] at HB ⊢
  clear hr1 hr2 hl hl1 hb hc
  generalize xs.length = n1 at HS ⊢
  generalize ys.length = n2 at HS ⊢
  generalize bs.length = m1 at HB ⊢
  generalize cs.length = m2 at HB ⊢
  have k0 := fun (j : Nat) (v : Value) (W : World) (h : (#[.slice A0 n1 c0, .slice E0 m1 d0] : Array Value)[j]? = some v) (hb : Below ((w.alloc (.cells #[.slice A0 n1 c0, .slice E0 m1 d0] 25)).alloc (.cells #[.slice A1 n2 c1, .slice E1 m2 d1] 25)).heap.size ((w.alloc (.cells #[.slice A0 n1 c0, .slice E0 m1 d0] 25)).alloc (.cells #[.slice A1 n2 c1, .slice E1 m2 d1] 25)) W) => (hb.cell (p := ⟨w.heap.size, j, none⟩) (by rw [alloc_size, alloc_size]; show w.heap.size < _; omega)).trans ((World.cell?_alloc2_first _ _ _ _).trans h)
  have k1 := fun (j : Nat) (v : Value) (W : World) (h : (#[.slice A1 n2 c1, .slice E1 m2 d1] : Array Value)[j]? = some v) (hb : Below ((w.alloc (.cells #[.slice A0 n1 c0, .slice E0 m1 d0] 25)).alloc (.cells #[.slice A1 n2 c1, .slice E1 m2 d1] 25)).heap.size ((w.alloc (.cells #[.slice A0 n1 c0, .slice E0 m1 d0] 25)).alloc (.cells #[.slice A1 n2 c1, .slice E1 m2 d1] 25)) W) => (hb.cell (p := ⟨w.heap.size + 1, j, none⟩) (by rw [alloc_size, alloc_size]; show w.heap.size + 1 < _; omega)).trans ((World.cell?_alloc2_new _ _ _ _).trans h)
  have K0 := Aside0.mk k0
  have K1 := Aside0.mk k1
  clear k0 k1
  cases r1 with
  | false =>
    go_enter Tryz.func23, Tryz.ntmps23
    go_wp2_with (first | (go_at_call 62; with_reducible refine (HS.out _ (by repeat (first | exact Below.refl _ _ | apply below_alloc | apply below_drew1 | apply pw_below_drewN))).mono ?_; rintro e w' ⟨rfl, hB⟩; have HBB := Aside0.mk (two_below (Below.refl _ _) hB); clear hB))
    go_ret
    exact ⟨rfl, HBB.out⟩
  | true =>
    go_enter Tryz.func23, Tryz.ntmps23
    go_wp2_with (first | (go_at_call 62; with_reducible refine (HS.out _ (by repeat (first | exact Below.refl _ _ | apply below_alloc | apply below_drew1 | apply pw_below_drewN))).mono ?_; rintro e w' ⟨rfl, hB⟩; have q0 := K0.out 1 (.slice E0 m1 d0) _ rfl hB; have q1 := K1.out 1 (.slice E1 m2 d1) _ rfl hB; have HBB := Aside0.mk (two_below (Below.refl _ _) hB); clear hB) | (go_at_call 63; with_reducible refine (HB.out _ (by repeat (first | exact HBB.out | apply below_drew1 | apply pw_below_drewN))).mono ?_; rintro e w2 ⟨rfl, ⟨nd, rfl⟩⟩))
    go_ret
    exact ⟨rfl, by repeat (first | exact HBB.out | apply below_drew1 | apply pw_below_drewN)⟩
end Go.Proofs.Tok
