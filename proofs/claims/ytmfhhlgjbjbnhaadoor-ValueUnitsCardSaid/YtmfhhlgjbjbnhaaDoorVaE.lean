/- strconv.FormatInt at base 16, of numbers of seven digits whose first one is 1: its contract, proved by walking its text; no condition beside those that each theorem states. -/
import Derived.Test.YtmfhhlgjbjbnhaaDoorVaD
import Derived.Test.YtmfhhlgjbjbnhaaDoorVaH
import Derived.Lib.VarintBits
set_option linter.unusedVariables false
set_option linter.unusedSimpArgs false
namespace Go.Proofs.Val
open Go.RowKit Go.Proofs Go.Proofs.YtmfhhlgjbjbnhaaDoorW.PrintWords
theorem tz16 (w : World) (hT : Tbs w) : Calls Tryd.prog 75 #[.int .u64 16] w fun e w' => e = .returned (.int .i64 4) ∧ w' = w := by
  have hc := hT.tz
  have h64 : ∀ w, w.cell? ⟨2, 15, none⟩ = some (.int .u8 4) → Calls Tryd.prog 87 #[.int .u64 16] w fun e w' => e = .returned (.int .i64 4) ∧ w' = w := by
    intro w hc
    have hv : IntKind.u64.wrap (bits BinOp.and IntKind.u64 16 (IntKind.u64.wrap (-16)) * 285870213051353865) / 288230376151711744 = 15 := by decide
    go_enter Tryd.func87, Tryd.ntmps87
    go_wp2
    go_ret
    exact ⟨rfl, rfl⟩
  have h := h64 w hc
  go_enter Tryd.func75, Tryd.ntmps75
  go_wp2_with (go_at_call 87; refine (h).mono ?_; rintro e w' ⟨rfl, rfl⟩)
  go_ret
  exact ⟨rfl, rfl⟩
theorem pow16 (w : World) : Calls Tryd.prog 74 #[.int .i64 16] w fun e w' => e = .returned (.bool true) ∧ w' = w := by
  have hb0 : bits BinOp.and IntKind.i64 16 15 = 0 := by decide
  go_enter Tryd.func74, Tryd.ntmps74
  go_wp2
  go_ret
  exact ⟨rfl, rfl⟩
def hexD (v : Nat) : UInt8 := UInt8.ofNat (if v < 10 then 48 + v else 87 + v)
theorem and15 (x : Int) (h0 : 0 ≤ x) (h1 : x < 18446744073709551616) : bits .and .u64 x 15 = x % 16 := bits_mask .u64 64 (by decide) wraps_u64 4 (by decide) x h0 h1
/-- the cells when k digits are laid -/
def hv (U k j : Nat) : Int := if 65 - k ≤ j then ((hexD (U / 16 ^ (64 - j) % 16)).toNat : Int) else 0
def HxAt (U B : Nat) (w wr : World) (k : Nat) : Prop := (∀ j, j < 65 → wr.cell? ⟨B, j, none⟩ = some (.int .u8 (hv U k j)) ∧ wr.frozen? ⟨B, j, none⟩ = false) ∧ Below w.heap.size w wr
theorem HxAt.put {U B k : Nat} {w wr : World} (h : HxAt U B w wr k) (hB : w.heap.size ≤ B) (hk : k < 65) {v : Int} (hv' : v = ((hexD (U / 16 ^ k % 16)).toNat : Int)) : HxAt U B w (wr.setCell ⟨B, 64 - k, none⟩ (.int .u8 v)) (k + 1) := by
  refine ⟨fun j hj => ⟨?_, by rw [World.frozen?_setCell]; exact (h.1 j hj).2⟩, h.2.setCell (p := ⟨B, 64 - k, none⟩) hB _⟩
  by_cases e : j = 64 - k
  · subst e
    have e2 : hv U (k + 1) (64 - k) = v := by unfold hv; rw [if_pos (by omega), hv', show 64 - (64 - k) = k by omega]
    rw [e2]
    exact World.cell?_setCell_same' _ _ _ (by rw [(h.1 (64 - k) hj).1]; rfl)
  · have e2 : hv U (k + 1) j = hv U k j := by
      unfold hv
      by_cases h1 : 65 - k ≤ j
      · rw [if_pos h1, if_pos (by omega)]
      · rw [if_neg h1, if_neg (by omega)]
    rw [e2, ← (h.1 j hj).1]
    exact World.cell?_setCell_other _ _ _ _ (by intro q; injection q with _ q; exact e q.symm)
theorem dig36_fin : ∀ i : Fin 16, ((⟨#[48, 49, 50, 51, 52, 53, 54, 55, 56, 57, 97, 98, 99, 100, 101, 102, 103, 104, 105, 106, 107, 108, 109, 110, 111, 112, 113, 114, 115, 116, 117, 118, 119, 120, 121, 122]⟩ : ByteArray)[i.val]'(Nat.lt_of_lt_of_le i.2 (by decide))) = hexD i.val := by decide +kernel
theorem dig36 (v : Nat) (h : v < 16) (hh) : ((⟨#[48, 49, 50, 51, 52, 53, 54, 55, 56, 57, 97, 98, 99, 100, 101, 102, 103, 104, 105, 106, 107, 108, 109, 110, 111, 112, 113, 114, 115, 116, 117, 118, 119, 120, 121, 122]⟩ : ByteArray)[v]'hh) = hexD v := dig36_fin ⟨v, h⟩
theorem zero65 : Tryd.zeroCells112 = Array.replicate 65 (.int .u8 0) := by kernel_rfl
theorem HxAt.start (U : Nat) (w : World) : HxAt U w.heap.size w (w.alloc (.cells Tryd.zeroCells112 112)) 0 := by
  refine ⟨fun j hj => ⟨?_, ?_⟩, (Below.refl _ _).alloc (Nat.le_refl _) _⟩
  · rw [cell_of_row _ _ _ _ _ _ (heap_alloc_new _ _), zero65]
    have e : hv U 0 j = 0 := by unfold hv; rw [if_neg (by omega)]
    rw [e]
    simp [hj]
  · exact World.frozen?_alloc_at _ _ _ _ rfl
def hexL (n : Nat) : List UInt8 := [hexD (n / 16 ^ 5 % 16), hexD (n / 16 ^ 4 % 16), hexD (n / 16 ^ 3 % 16), hexD (n / 16 ^ 2 % 16), hexD (n / 16 % 16), hexD (n % 16)]
set_option maxHeartbeats 4000000 in
set_option maxRecDepth 1000000 in
theorem bits16 (n : Nat) (hn : n < 16777216) (w : World) (hT : Tbs w) :
    Calls Tryd.prog 57 #[.slice none 0 0, .int .u64 ((16777216 + n : Nat) : Int), .int .i64 16, .bool false, .bool false] w fun e w' => e = .returned (.tuple #[.slice none 0 0, .string ⟨(49 :: hexL n).toArray⟩]) ∧ Below w.heap.size w w' := by
  obtain ⟨U, hU⟩ : ∃ U, 16777216 + n = U := ⟨_, rfl⟩
  rw [hU]
  have HU := Lib.hid hU
  have hb1 : 16777216 ≤ U := by omega
  have hb2 : U < 33554432 := by omega
  have H0 := Lib.hid (HxAt.start U w)
  clear hU
  have hX := fun k v hv' => dig36 k v hv'
  go_enter Tryd.func57, Tryd.ntmps57
  go_wp2_with (first | (go_at_call 74; refine (pow16 _).mono ?_; rintro e w' ⟨rfl, rfl⟩) | (go_at_call 75; refine (tz16 _ (hT.below (by first | exact (Below.refl _ _).alloc (Nat.le_refl _) _ | exact Below.refl _ _))).mono ?_; rintro e w' ⟨rfl, rfl⟩))
  go_loopw [1, 13] (fun u i wr => ∃ k : Nat, k ≤ 6 ∧ i = .int .i64 ((65 - k : Nat) : Int) ∧ u = .int .u64 ((U / 16 ^ k : Nat) : Int) ∧ Hid (HxAt U w.heap.size w wr k)) (fun _ i _ => (RowKit.intOf i).toNat)
  case atStart => exact ⟨0, by omega, rfl, by simp, Lib.hid H0.out⟩
  case round =>
    obtain ⟨k, hk, rfl, rfl, H1⟩ := hrel
    clear H0 hT
    by_cases hlt : k < 6
    · have hp : 16 ≤ U / 16 ^ k := by
        have hq : 16 * 16 ^ k ≤ 16 ^ 6 := by rw [Nat.mul_comm, ← Nat.pow_succ]; exact Nat.pow_le_pow_right (by omega) (by omega)
        have h6 : (16 : Nat) ^ 6 = 16777216 := by decide
        exact (Nat.le_div_iff_mul_le (Nat.pow_pos (by omega))).2 (by omega)
      have hle : U / 16 ^ k < 33554432 := Nat.lt_of_le_of_lt (Nat.div_le_self _ _) hb2
      have HN := Lib.hid (show U / 16 ^ (k + 1) = U / 16 ^ k / 16 by rw [Nat.pow_succ, Nat.div_div_eq_div_mul])
      obtain ⟨c1, c2⟩ := H1.out.1 (64 - k) (by omega)
      obtain ⟨x, hx⟩ : ∃ x, U / 16 ^ k = x := ⟨_, rfl⟩
      have HX := Lib.hid hx
      rw [hx] at hp hle
      rw [hx]
      obtain ⟨i, hi⟩ : ∃ i, 64 - k = i := ⟨_, rfl⟩
      have HI := Lib.hid hi
      rw [hi] at c1 c2
      have e1 : 65 - k = i + 1 := by omega
      have hi65 : i < 65 := by omega
      rw [e1]
      clear e1 hi hx
      have ha := and15 (x : Int) (by omega) (by omega)
      have hd := fun h => hX (x % 16) (by omega) h
      clear hX
      go_wp2
      refine ⟨⟨k + 1, by omega, ?_, ?_, Lib.hid ?_⟩, by simp [RowKit.intOf]⟩
      · congr 1; have := HI.out; omega
      · rw [HN.out, HX.out]; congr 1
      · have hh := H1.out.put (Nat.le_refl _) (by omega) (v := ((hexD (x % 16)).toNat : Int)) (by rw [HX.out])
        rw [HI.out] at hh
        exact hh
    · obtain rfl : k = 6 := by omega
      have hq1 : U / 16 ^ 6 = 1 := by have h6 : (16 : Nat) ^ 6 = 16777216 := by decide
                                      rw [h6]; omega
      rw [hq1]
      have hd := fun h => hX 1 (by omega) h
      clear hX
      obtain ⟨c1, c2⟩ := H1.out.1 58 (by omega)
      have H2 := H1.out.put (Nat.le_refl _) (by omega) (v := ((hexD 1).toNat : Int)) (by rw [hq1])
      have hcv := run_convert_bytes_arg (P := Tryd.prog) (wr.setCell ⟨w.heap.size, 58, none⟩ (.int .u8 ((hexD 1).toNat : Int))) 83 5 Tryd.underlying83 Tryd.underlying5 w.heap.size 58 7 7 ((List.range 7).map fun i => hv U 7 (58 + i)) (by simp) (fun i hi => by rw [(H2.1 (58 + i) (by omega)).1]; simp [List.getD, hi]) 9 Tryd.underlying9
      have hB := Lib.hid H2.2
      have hs : strOfNums ((List.range 7).map fun i => hv U 7 (58 + i)) = ⟨(49 :: hexL n).toArray⟩ := by
        have h5 : (16 : Nat) ^ 5 = 1048576 := by decide
        have h4 : (16 : Nat) ^ 4 = 65536 := by decide
        have h3 : (16 : Nat) ^ 3 = 4096 := by decide
        have h2 : (16 : Nat) ^ 2 = 256 := by decide
        have h6 : (16 : Nat) ^ 6 = 16777216 := by decide
        have hU := HU.out
        have q : ∀ i, i < 7 → hv U 7 (58 + i) = ((hexD (U / 16 ^ (6 - i) % 16)).toNat : Int) := fun i hi => by unfold hv; rw [if_pos (by omega), show 64 - (58 + i) = 6 - i by omega]
        have o : ∀ c : UInt8, UInt8.ofNat ((c.toNat : Int)).toNat = c := fun c => by simp
        unfold strOfNums hexL
        congr 1
        have e7 : List.range 7 = [0, 1, 2, 3, 4, 5, 6] := rfl
        rw [e7]
        simp only [List.map_cons, List.map_nil]
        rw [q 0 (by omega), q 1 (by omega), q 2 (by omega), q 3 (by omega), q 4 (by omega), q 5 (by omega), q 6 (by omega)]
        simp only [o, Nat.reduceSub, Nat.pow_zero, Nat.pow_one, Nat.div_one, h2, h3, h4, h5, h6]
        rw [show U / 16777216 % 16 = 1 by omega, show U / 1048576 % 16 = n / 1048576 % 16 by omega, show U / 65536 % 16 = n / 65536 % 16 by omega, show U / 4096 % 16 = n / 4096 % 16 by omega, show U / 256 % 16 = n / 256 % 16 by omega, show U / 16 % 16 = n / 16 % 16 by omega, show U % 16 = n % 16 by omega]
        rfl
      rw [hs] at hcv
      clear H1 H2 hs hq1
      obtain ⟨S, hS⟩ : ∃ S : ByteArray, ⟨(49 :: hexL n).toArray⟩ = S := ⟨_, rfl⟩
      rw [hS] at hcv
      have HS := Lib.hid hS
      clear hS
      go_wp2
      go_ret2
      exact ⟨(show _ = Ending.returned (Value.tuple #[.slice none 0 0, .string S]) from rfl).trans (by rw [HS.out]), hB.out⟩
set_option maxHeartbeats 1000000 in
set_option maxRecDepth 100000 in
theorem fmt16 (n : Nat) (hn : n < 16777216) (w : World) (hT : Tbs w) :
    Calls Tryd.prog 30 #[.int .i64 ((16777216 + n : Nat) : Int), .int .i64 16] w fun e w' => e = .returned (.string ⟨(49 :: hexL n).toArray⟩) ∧ Below w.heap.size w w' := by
  have hF := fun w hT => bits16 n hn w hT
  have hn2 : ((16777216 + n : Nat) : Int) ≤ 33554432 := by omega
  have hn3 : 16777216 ≤ ((16777216 + n : Nat) : Int) := by omega
  generalize ((16777216 + n : Nat) : Int) = z at hF hn2 hn3 ⊢
  generalize (⟨(49 :: hexL n).toArray⟩ : ByteArray) = S at hF ⊢
  have hI : ∀ w, Tbs w → Calls Tryd.prog 45 #[.int .i64 z, .int .i64 16] w fun e w' => e = .returned (.string S) ∧ Below w.heap.size w w' := by
    intro w hT
    have hx := hF w hT
    have d0 : decide (z < 0) = false := decide_eq_false (by omega)
    have d1 : IntKind.u64.wrap z = z := wraps_u64 _ (by omega) (by omega)
    clear hF
    go_enter Tryd.func45, Tryd.ntmps45
    go_wp2_with (go_at_call 57; with_reducible refine (hx).mono ?_; rintro e w' ⟨rfl, hB⟩)
    go_ret
    exact ⟨rfl, hB⟩
  have hy := hI w hT
  clear hI hF
  go_enter Tryd.func30, Tryd.ntmps30
  go_wp2_with (go_at_call 45; refine (hy).mono ?_; rintro e w' ⟨rfl, hB⟩)
  go_ret
  exact ⟨rfl, hB⟩
end Go.Proofs.Val
