/- value.decimal of every number that may be told: its contract, proved by walking its text; no condition beside those that each theorem states. -/
import Derived.Test.YtmfhhlgjbjbnhaaGreatDoorVaQ
import Derived.Test.YtmfhhlgjbjbnhaaGreatDoorVaB
import Derived.Laws.BytesArg
import Derived.Test.YtmfhhlgjbjbnhaaGreatDoorVaH
import Derived.Lib.VarintBits
import Derived.Test.YtmfhhlgjbjbnhaaGreatDoorSh
import Derived.Test.YtmfhhlgjbjbnhaaGreatDoorShX
import Derived.Test.YtmfhhlgjbjbnhaaGreatDoorWWords
import Derived.Lib.ConvBytes
import Derived.Deep.LoopGhost
import Derived.IntWalk
import Derived.Lib.Hide
set_option linter.unusedVariables false
set_option linter.unusedSimpArgs false
namespace Go.Proofs.Val
open Go.RowKit Go.Proofs Go.Proofs.YtmfhhlgjbjbnhaaGreatDoorW.PrintWords
/-- the tables of the library that numbers' texts are made by -/
structure Tbs (w : World) : Prop where
  p10 : Lib.TabIs Tryz.prog w "internal/strconv.uint64pow10" .u64 Lib.pow10Tab
  tz : w.cell? ⟨7, 15, none⟩ = some (.int .u8 4)
theorem gn10 : Tryz.prog.globalNamed "internal/strconv.uint64pow10" = some 0 := by kernel_rfl
theorem Tbs.below {w w' : World} (h : Tbs w) (hb : Below w.heap.size w w') : Tbs w' := by
  refine ⟨?_, (hb.cell (p := ⟨7, 15, none⟩) (World.block_lt_of_cell? _ _ h.tz)).trans h.tz⟩
  have h1 := h.p10
  unfold Lib.TabIs World.var? at h1 ⊢
  rw [gn10] at h1 ⊢
  simp only [Option.bind_some] at h1 ⊢
  have hlt : 0 < w.heap.size := by
    rcases Nat.lt_or_ge 0 w.heap.size with h' | h'
    · exact h'
    · rw [Array.getElem?_eq_none h'] at h1; cases h1
  rw [hb.block _ hlt]
  exact h1
theorem Tbs.draws {w : World} (h : Tbs w) (n : Nat) : Tbs (w.drewN n) := ⟨h.p10, h.tz⟩
theorem grow_below (w : World) (q : Nat) (os : Array Obj) : Below w.heap.size w (Go.Sort.grow (w.drewN q) os) :=
  ⟨rfl, rfl, rfl, by first | (simp [Go.Sort.grow]; done) | (simp [Go.Sort.grow]; omega), fun i hi => by
    show ((w.drewN q).heap ++ os)[i]? = _
    rw [Array.getElem?_append_left (by show i < w.heap.size; omega)]
    rfl⟩
theorem fmt10 (u : Nat) (hu : u ≤ 1000000000) (w : World) (hT : Tbs w) :
    Calls Tryz.prog 33 #[.int .i64 (u : Int), .int .i64 10] w fun e w' => e = .returned (.string ⟨(Lib.decDigits u).toArray⟩) ∧ Below w.heap.size w w' := by
  refine (Tryz.strconv_FormatInt_10 (u : Int) (by omega) (by omega) w hT.p10).mono ?_
  rintro e w' ⟨rfl, k, os, rfl⟩
  exact ⟨by rw [Lib.itoa_nonneg], grow_below _ _ _⟩
theorem trB (l : List UInt8) : Lib.trimRightB l 48 = Lib.trimRightS l [48] := by
  unfold Lib.trimRightB Lib.trimRightS
  congr 2
  funext c
  by_cases h : c = 48 <;> simp [h]
set_option maxHeartbeats 2000000 in
theorem decimalC (n : Int) (h1 : -63999999999 ≤ n) (h2 : n ≤ 63999999999) (w : World) (hT : Tbs w) :
    Calls Tryz.prog 34 #[.int .i64 n] w fun e w' => e = .returned (.string ⟨(decL n).toArray⟩) ∧ Below w.heap.size w w' := by
  have HL := Lib.hid (show decL n = Lib.trimSuffix ((if n < 0 then [45] else []) ++ Lib.decDigits (n.natAbs / 64) ++ ([46] ++ fracL (n.natAbs % 64))) [46] from rfl)
  obtain ⟨m, hm⟩ : ∃ m, n.natAbs = m := ⟨_, rfl⟩
  rw [hm] at HL
  obtain ⟨q, hq⟩ : ∃ q, m / 64 = q := ⟨_, rfl⟩
  obtain ⟨r, hr⟩ : ∃ r, m % 64 = r := ⟨_, rfl⟩
  rw [hq, hr] at HL
  have hr64 : r < 64 := by omega
  obtain ⟨six, s1, s2, s3, s4⟩ := dd_seven (r := r * 15625) (by omega)
  have hA := fun w hT => fmt10 q (by omega) w hT
  have hB := fun w hT => fmt10 (1000000 + r * 15625) (by omega) w hT
  have lq := dd_len (u := q) (k := 9) (by omega) (by simp; omega)
  rw [s1] at hB
  have ex : (⟨(49 :: six).toArray⟩ : ByteArray).extract 1 (⟨(49 :: six).toArray⟩ : ByteArray).size = ⟨six.toArray⟩ := by
    rw [Lib.extract_mk]
    congr 2
    rw [ba_size]
    simp
  have fr : (⟨(Lib.trimRightB (⟨six.toArray⟩ : ByteArray).data.toList 48).toArray⟩ : ByteArray) = ⟨(fracL r).toArray⟩ := by
    rw [show (⟨six.toArray⟩ : ByteArray).data.toList = six from rfl, trB]
    unfold fracL
    rw [s1]; rfl
  have lf := (frac_ok hr64).2.1
  have sz7 : (⟨(49 :: six).toArray⟩ : ByteArray).size = 7 := by rw [ba_size]; simp [s2]
  have hC := fun w => Tryz.strings_TrimRight_one ⟨six.toArray⟩ 48 (by decide) w (by rw [ba_size]; omega)
  rw [fr] at hC
  rw [← ex] at hC
  obtain ⟨sb, hsb⟩ : ∃ sb : ByteArray, ⟨(49 :: six).toArray⟩ = sb := ⟨_, rfl⟩
  rw [hsb] at hB hC sz7
  clear fr ex hsb s1 s2 s3 s4
  have z1 : 1 ≤ sb.size ∧ sb.size ≤ 7 := by omega
  clear sz7
  have e1 : ((1000000 + r * 15625 : Nat) : Int) = 1000000 + (m : Int) % 64 * 15625 := by omega
  have e2 : ((q : Nat) : Int) = (m : Int) / 64 := by omega
  rw [e1] at hB
  rw [e2] at hA
  have hm64 : (m : Int) ≤ 63999999999 := by omega
  have m0 : 0 ≤ (m : Int) := by omega
  obtain ⟨M, hM⟩ : ∃ M : Int, (m : Int) = M := ⟨_, rfl⟩
  rw [hM] at hA hB hm64 m0
  obtain ⟨fb, hfb⟩ : ∃ fb : List UInt8, fracL r = fb := ⟨_, rfl⟩
  obtain ⟨wb, hwb⟩ : ∃ wb : List UInt8, Lib.decDigits q = wb := ⟨_, rfl⟩
  rw [hfb] at hC lf HL
  rw [hwb] at hA lq HL
  have zf := ba_size fb
  have zw := ba_size wb
  by_cases hn : n < 0
  · rw [if_pos hn] at HL
    have hS := fun w => Tryz.strings_TrimSuffix (((⟨#[45]⟩ : ByteArray) ++ ⟨wb.toArray⟩) ++ ⟨#[46]⟩ ++ ⟨fb.toArray⟩) ⟨#[46]⟩ w (by
      rw [show (⟨#[45]⟩ : ByteArray) = ⟨([45] : List UInt8).toArray⟩ from rfl, show (⟨#[46]⟩ : ByteArray) = ⟨([46] : List UInt8).toArray⟩ from rfl, ba_app, ba_app, ba_app, ba_size]; simp; omega)
    have hk1 : (⟨#[45]⟩ : ByteArray).size + (⟨wb.toArray⟩ : ByteArray).size ≤ 9223372036854775807 := by rw [ba_size]; show 1 + _ ≤ _; omega
    have hk2 : ((⟨#[45]⟩ : ByteArray) ++ ⟨wb.toArray⟩).size + (⟨#[46]⟩ : ByteArray).size ≤ 9223372036854775807 := by rw [show (⟨#[45]⟩ : ByteArray) = ⟨([45] : List UInt8).toArray⟩ from rfl, ba_app, ba_size]; show (_ + 1) ≤ _; simp; omega
    have hk3 : (((⟨#[45]⟩ : ByteArray) ++ ⟨wb.toArray⟩) ++ (⟨#[46]⟩ : ByteArray)).size + (⟨fb.toArray⟩ : ByteArray).size ≤ 9223372036854775807 := by rw [show (⟨#[45]⟩ : ByteArray) = ⟨([45] : List UInt8).toArray⟩ from rfl, show (⟨#[46]⟩ : ByteArray) = ⟨([46] : List UInt8).toArray⟩ from rfl, ba_app, ba_app, ba_size, ba_size]; simp; omega
    have fin : (⟨(Lib.trimSuffix (((⟨#[45]⟩ : ByteArray) ++ ⟨wb.toArray⟩) ++ ⟨#[46]⟩ ++ ⟨fb.toArray⟩ : ByteArray).data.toList (⟨#[46]⟩ : ByteArray).data.toList).toArray⟩ : ByteArray) = ⟨(decL n).toArray⟩ := by
      rw [show (⟨#[45]⟩ : ByteArray) = ⟨([45] : List UInt8).toArray⟩ from rfl, show (⟨#[46]⟩ : ByteArray) = ⟨([46] : List UInt8).toArray⟩ from rfl, ba_app, ba_app, ba_app, HL.out]
      simp
    rw [fin] at hS
    obtain ⟨D, hD⟩ : ∃ D : ByteArray, ⟨(decL n).toArray⟩ = D := ⟨_, rfl⟩
    rw [hD] at hS ⊢
    obtain ⟨Fb, hFb⟩ : ∃ D : ByteArray, ⟨fb.toArray⟩ = D := ⟨_, rfl⟩
    obtain ⟨Wb, hWb⟩ : ∃ D : ByteArray, ⟨wb.toArray⟩ = D := ⟨_, rfl⟩
    rw [hFb] at hC hS hk3
    rw [hWb] at hA hS hk1 hk2 hk3
    obtain rfl : n = -M := by omega
    clear fin hD hFb hWb HL zf zw hfb hwb hM e1 e2 hq hr hm hr64 lf lq
    go_enter Tryz.func34, Tryz.ntmps34
    go_wp2_with (first | (go_at_call 33; first | (with_reducible refine (hA _ hT).mono ?_; rintro e w1 ⟨rfl, hB1⟩) | (with_reducible refine (hB _ (hT.below hB1)).mono ?_; rintro e w2 ⟨rfl, hB2⟩)) | (go_at_call 48; with_reducible refine (hC _).mono ?_; rintro e w3 ⟨rfl, rfl⟩) | (go_at_call 47; with_reducible refine (hS _).mono ?_; rintro e w4 ⟨rfl, rfl⟩))
    go_ret
    exact ⟨rfl, below_then hB1 hB1.size hB2⟩
  · rw [if_neg hn] at HL
    have hS := fun w => Tryz.strings_TrimSuffix (((⟨#[]⟩ : ByteArray) ++ ⟨wb.toArray⟩) ++ ⟨#[46]⟩ ++ ⟨fb.toArray⟩) ⟨#[46]⟩ w (by
      rw [show (⟨#[]⟩ : ByteArray) = ⟨([] : List UInt8).toArray⟩ from rfl, show (⟨#[46]⟩ : ByteArray) = ⟨([46] : List UInt8).toArray⟩ from rfl, ba_app, ba_app, ba_app, ba_size]; simp; omega)
    have hk1 : (⟨#[]⟩ : ByteArray).size + (⟨wb.toArray⟩ : ByteArray).size ≤ 9223372036854775807 := by rw [ba_size]; show 0 + _ ≤ _; omega
    have hk2 : ((⟨#[]⟩ : ByteArray) ++ ⟨wb.toArray⟩).size + (⟨#[46]⟩ : ByteArray).size ≤ 9223372036854775807 := by rw [show (⟨#[]⟩ : ByteArray) = ⟨([] : List UInt8).toArray⟩ from rfl, ba_app, ba_size]; show (_ + 1) ≤ _; simp; omega
    have hk3 : (((⟨#[]⟩ : ByteArray) ++ ⟨wb.toArray⟩) ++ (⟨#[46]⟩ : ByteArray)).size + (⟨fb.toArray⟩ : ByteArray).size ≤ 9223372036854775807 := by rw [show (⟨#[]⟩ : ByteArray) = ⟨([] : List UInt8).toArray⟩ from rfl, show (⟨#[46]⟩ : ByteArray) = ⟨([46] : List UInt8).toArray⟩ from rfl, ba_app, ba_app, ba_size, ba_size]; simp; omega
    have fin : (⟨(Lib.trimSuffix (((⟨#[]⟩ : ByteArray) ++ ⟨wb.toArray⟩) ++ ⟨#[46]⟩ ++ ⟨fb.toArray⟩ : ByteArray).data.toList (⟨#[46]⟩ : ByteArray).data.toList).toArray⟩ : ByteArray) = ⟨(decL n).toArray⟩ := by
      rw [show (⟨#[]⟩ : ByteArray) = ⟨([] : List UInt8).toArray⟩ from rfl, show (⟨#[46]⟩ : ByteArray) = ⟨([46] : List UInt8).toArray⟩ from rfl, ba_app, ba_app, ba_app, HL.out]
      simp
    rw [fin] at hS
    obtain ⟨D, hD⟩ : ∃ D : ByteArray, ⟨(decL n).toArray⟩ = D := ⟨_, rfl⟩
    rw [hD] at hS ⊢
    obtain ⟨Fb, hFb⟩ : ∃ D : ByteArray, ⟨fb.toArray⟩ = D := ⟨_, rfl⟩
    obtain ⟨Wb, hWb⟩ : ∃ D : ByteArray, ⟨wb.toArray⟩ = D := ⟨_, rfl⟩
    rw [hFb] at hC hS hk3
    rw [hWb] at hA hS hk1 hk2 hk3
    obtain rfl : n = M := by omega
    clear fin hD hFb hWb HL zf zw hfb hwb hM e1 e2 hq hr hm hr64 lf lq
    go_enter Tryz.func34, Tryz.ntmps34
    go_wp2_with (first | (go_at_call 33; first | (with_reducible refine (hA _ hT).mono ?_; rintro e w1 ⟨rfl, hB1⟩) | (with_reducible refine (hB _ (hT.below hB1)).mono ?_; rintro e w2 ⟨rfl, hB2⟩)) | (go_at_call 48; with_reducible refine (hC _).mono ?_; rintro e w3 ⟨rfl, rfl⟩) | (go_at_call 47; with_reducible refine (hS _).mono ?_; rintro e w4 ⟨rfl, rfl⟩))
    go_ret
    exact ⟨rfl, below_then hB1 hB1.size hB2⟩
end Go.Proofs.Val
set_option linter.unusedVariables false
set_option linter.unusedSimpArgs false
namespace Go.Proofs.Val
open Go.RowKit Go.Proofs Go.Proofs.YtmfhhlgjbjbnhaaGreatDoorW.PrintWords
theorem tz16 (w : World) (hT : Tbs w) : Calls Tryz.prog 82 #[.int .u64 16] w fun e w' => e = .returned (.int .i64 4) ∧ w' = w := by
  have hc := hT.tz
  have h64 : ∀ w, w.cell? ⟨7, 15, none⟩ = some (.int .u8 4) → Calls Tryz.prog 95 #[.int .u64 16] w fun e w' => e = .returned (.int .i64 4) ∧ w' = w := by
    intro w hc
    have hv : IntKind.u64.wrap (bits BinOp.and IntKind.u64 16 (IntKind.u64.wrap (-16)) * 285870213051353865) / 288230376151711744 = 15 := by decide
    go_enter Tryz.func95, Tryz.ntmps95
    go_wp2
    go_ret
    exact ⟨rfl, rfl⟩
  have h := h64 w hc
  go_enter Tryz.func82, Tryz.ntmps82
  go_wp2_with (go_at_call 95; refine (h).mono ?_; rintro e w' ⟨rfl, rfl⟩)
  go_ret
  exact ⟨rfl, rfl⟩
theorem pow16 (w : World) : Calls Tryz.prog 81 #[.int .i64 16] w fun e w' => e = .returned (.bool true) ∧ w' = w := by
  have hb0 : bits BinOp.and IntKind.i64 16 15 = 0 := by decide
  go_enter Tryz.func81, Tryz.ntmps81
  go_wp2
  go_ret
  exact ⟨rfl, rfl⟩
def hexD (v : Nat) : UInt8 := UInt8.ofNat (if v < 10 then 48 + v else 87 + v)
theorem and15 (x : Int) (h0 : 0 ≤ x) (h1 : x < 18446744073709551616) : bits .and .u64 x 15 = x % 16 := bits_mask .u64 64 (by decide) wraps_u64 4 (by decide) x h0 h1
/-- the cells when k digits are laid -/
def hv (U k j : Nat) : Int := if 65 - k ≤ j then ((hexD (U / 16 ^ (64 - j) % 16)).toNat : Int) else 0
def HxAt (U B : Nat) (w wr : World) (k : Nat) : Prop := (∀ j, j < 65 → wr.cell? ⟨B, j, none⟩ = some (.int .u8 (hv U k j)) ∧ wr.frozen? ⟨B, j, none⟩ = false) ∧ Below w.heap.size w wr
theorem HxAt.put {U B k : Nat} {w wr : World} (h : HxAt U B w wr k) (hB : w.heap.size ≤ B) (hk : k < 65) {v : Int} (hv' : v = ((hexD (U / 16 ^ k % 16)).toNat : Int)) : HxAt U B w (wr.setCell ⟨B, 64 - k, none⟩ (.int .u8 v)) (k + 1) := by
  refine ⟨fun j hj => ⟨?_, by rw [World.frozen?_setCell]; exact (h.1 j hj).2⟩, h.2.setCell (p := ⟨B, 64 - k, none⟩) hB _⟩
  by_cases e : j = 64 - k
  · subst e
    have e2 : hv U (k + 1) (64 - k) = v := by unfold hv; rw [if_pos (by omega), hv', show 64 - (64 - k) = k by omega]
    rw [e2]
    exact World.cell?_setCell_same' _ _ _ (by rw [(h.1 (64 - k) hj).1]; rfl)
  · have e2 : hv U (k + 1) j = hv U k j := by
      unfold hv
      by_cases h1 : 65 - k ≤ j
      · rw [if_pos h1, if_pos (by omega)]
      · rw [if_neg h1, if_neg (by omega)]
    rw [e2, ← (h.1 j hj).1]
    exact World.cell?_setCell_other _ _ _ _ (by intro q; injection q with _ q; exact e q.symm)
theorem dig36_fin : ∀ i : Fin 16, ((⟨#[48, 49, 50, 51, 52, 53, 54, 55, 56, 57, 97, 98, 99, 100, 101, 102, 103, 104, 105, 106, 107, 108, 109, 110, 111, 112, 113, 114, 115, 116, 117, 118, 119, 120, 121, 122]⟩ : ByteArray)[i.val]'(Nat.lt_of_lt_of_le i.2 (by decide))) = hexD i.val := by decide +kernel
theorem dig36 (v : Nat) (h : v < 16) (hh) : ((⟨#[48, 49, 50, 51, 52, 53, 54, 55, 56, 57, 97, 98, 99, 100, 101, 102, 103, 104, 105, 106, 107, 108, 109, 110, 111, 112, 113, 114, 115, 116, 117, 118, 119, 120, 121, 122]⟩ : ByteArray)[v]'hh) = hexD v := dig36_fin ⟨v, h⟩
theorem zero65 : Tryz.zeroCells95 = Array.replicate 65 (.int .u8 0) := by kernel_rfl
theorem HxAt.start (U : Nat) (w : World) : HxAt U w.heap.size w (w.alloc (.cells Tryz.zeroCells95 95)) 0 := by
  refine ⟨fun j hj => ⟨?_, ?_⟩, (Below.refl _ _).alloc (Nat.le_refl _) _⟩
  · rw [cell_of_row _ _ _ _ _ _ (heap_alloc_new _ _), zero65]
    have e : hv U 0 j = 0 := by unfold hv; rw [if_neg (by omega)]
    rw [e]
    simp [hj]
  · exact World.frozen?_alloc_at _ _ _ _ rfl
def hexL (n : Nat) : List UInt8 := [hexD (n / 16 ^ 5 % 16), hexD (n / 16 ^ 4 % 16), hexD (n / 16 ^ 3 % 16), hexD (n / 16 ^ 2 % 16), hexD (n / 16 % 16), hexD (n % 16)]
set_option maxHeartbeats 4000000 in
set_option maxRecDepth 1000000 in
theorem bits16 (n : Nat) (hn : n < 16777216) (w : World) (hT : Tbs w) :
    Calls Tryz.prog 67 #[.slice none 0 0, .int .u64 ((16777216 + n : Nat) : Int), .int .i64 16, .bool false, .bool false] w fun e w' => e = .returned (.tuple #[.slice none 0 0, .string ⟨(49 :: hexL n).toArray⟩]) ∧ Below w.heap.size w w' := by
  obtain ⟨U, hU⟩ : ∃ U, 16777216 + n = U := ⟨_, rfl⟩
  rw [hU]
  have HU := Lib.hid hU
  have hb1 : 16777216 ≤ U := by omega
  have hb2 : U < 33554432 := by omega
  have H0 := Lib.hid (HxAt.start U w)
  clear hU
  have hX := fun k v hv' => dig36 k v hv'
  go_enter Tryz.func67, Tryz.ntmps67
  go_wp2_with (first | (go_at_call 81; refine (pow16 _).mono ?_; rintro e w' ⟨rfl, rfl⟩) | (go_at_call 82; refine (tz16 _ (hT.below (by first | exact (Below.refl _ _).alloc (Nat.le_refl _) _ | exact Below.refl _ _))).mono ?_; rintro e w' ⟨rfl, rfl⟩))
  go_loopw [1, 13] (fun u i wr => ∃ k : Nat, k ≤ 6 ∧ i = .int .i64 ((65 - k : Nat) : Int) ∧ u = .int .u64 ((U / 16 ^ k : Nat) : Int) ∧ Hid (HxAt U w.heap.size w wr k)) (fun _ i _ => (RowKit.intOf i).toNat)
  case atStart => exact ⟨0, by omega, rfl, by simp, Lib.hid H0.out⟩
  case round =>
    obtain ⟨k, hk, rfl, rfl, H1⟩ := hrel
    clear H0 hT
    by_cases hlt : k < 6
    · have hp : 16 ≤ U / 16 ^ k := by
        have hq : 16 * 16 ^ k ≤ 16 ^ 6 := by rw [Nat.mul_comm, ← Nat.pow_succ]; exact Nat.pow_le_pow_right (by omega) (by omega)
        have h6 : (16 : Nat) ^ 6 = 16777216 := by decide
        exact (Nat.le_div_iff_mul_le (Nat.pow_pos (by omega))).2 (by omega)
      have hle : U / 16 ^ k < 33554432 := Nat.lt_of_le_of_lt (Nat.div_le_self _ _) hb2
      have HN := Lib.hid (show U / 16 ^ (k + 1) = U / 16 ^ k / 16 by rw [Nat.pow_succ, Nat.div_div_eq_div_mul])
      obtain ⟨c1, c2⟩ := H1.out.1 (64 - k) (by omega)
      obtain ⟨x, hx⟩ : ∃ x, U / 16 ^ k = x := ⟨_, rfl⟩
      have HX := Lib.hid hx
      rw [hx] at hp hle
      rw [hx]
      obtain ⟨i, hi⟩ : ∃ i, 64 - k = i := ⟨_, rfl⟩
      have HI := Lib.hid hi
      rw [hi] at c1 c2
      have e1 : 65 - k = i + 1 := by omega
      have hi65 : i < 65 := by omega
      rw [e1]
      clear e1 hi hx
      have ha := and15 (x : Int) (by omega) (by omega)
      have hd := fun h => hX (x % 16) (by omega) h
      clear hX
      go_wp2
      refine ⟨⟨k + 1, by omega, ?_, ?_, Lib.hid ?_⟩, by simp [RowKit.intOf]⟩
      · congr 1; have := HI.out; omega
      · rw [HN.out, HX.out]; congr 1
      · have hh := H1.out.put (Nat.le_refl _) (by omega) (v := ((hexD (x % 16)).toNat : Int)) (by rw [HX.out])
        rw [HI.out] at hh
        exact hh
    · obtain rfl : k = 6 := by omega
      have hq1 : U / 16 ^ 6 = 1 := by have h6 : (16 : Nat) ^ 6 = 16777216 := by decide
                                      rw [h6]; omega
      rw [hq1]
      have hd := fun h => hX 1 (by omega) h
      clear hX
      obtain ⟨c1, c2⟩ := H1.out.1 58 (by omega)
      have H2 := H1.out.put (Nat.le_refl _) (by omega) (v := ((hexD 1).toNat : Int)) (by rw [hq1])
      have hcv := run_convert_bytes_arg (P := Tryz.prog) (wr.setCell ⟨w.heap.size, 58, none⟩ (.int .u8 ((hexD 1).toNat : Int))) 56 5 Tryz.underlying56 Tryz.underlying5 w.heap.size 58 7 7 ((List.range 7).map fun i => hv U 7 (58 + i)) (by simp) (fun i hi => by rw [(H2.1 (58 + i) (by omega)).1]; simp [List.getD, hi]) 9 Tryz.underlying9
      have hB := Lib.hid H2.2
      have hs : strOfNums ((List.range 7).map fun i => hv U 7 (58 + i)) = ⟨(49 :: hexL n).toArray⟩ := by
        have h5 : (16 : Nat) ^ 5 = 1048576 := by decide
        have h4 : (16 : Nat) ^ 4 = 65536 := by decide
        have h3 : (16 : Nat) ^ 3 = 4096 := by decide
        have h2 : (16 : Nat) ^ 2 = 256 := by decide
        have h6 : (16 : Nat) ^ 6 = 16777216 := by decide
        have hU := HU.out
        have q : ∀ i, i < 7 → hv U 7 (58 + i) = ((hexD (U / 16 ^ (6 - i) % 16)).toNat : Int) := fun i hi => by unfold hv; rw [if_pos (by omega), show 64 - (58 + i) = 6 - i by omega]
        have o : ∀ c : UInt8, UInt8.ofNat ((c.toNat : Int)).toNat = c := fun c => by simp
        unfold strOfNums hexL
        congr 1
        have e7 : List.range 7 = [0, 1, 2, 3, 4, 5, 6] := rfl
        rw [e7]
        simp only [List.map_cons, List.map_nil]
        rw [q 0 (by omega), q 1 (by omega), q 2 (by omega), q 3 (by omega), q 4 (by omega), q 5 (by omega), q 6 (by omega)]
        simp only [o, Nat.reduceSub, Nat.pow_zero, Nat.pow_one, Nat.div_one, h2, h3, h4, h5, h6]
        rw [show U / 16777216 % 16 = 1 by omega, show U / 1048576 % 16 = n / 1048576 % 16 by omega, show U / 65536 % 16 = n / 65536 % 16 by omega, show U / 4096 % 16 = n / 4096 % 16 by omega, show U / 256 % 16 = n / 256 % 16 by omega, show U / 16 % 16 = n / 16 % 16 by omega, show U % 16 = n % 16 by omega]
        rfl
      rw [hs] at hcv
      clear H1 H2 hs hq1
      obtain ⟨S, hS⟩ : ∃ S : ByteArray, ⟨(49 :: hexL n).toArray⟩ = S := ⟨_, rfl⟩
      rw [hS] at hcv
      have HS := Lib.hid hS
      clear hS
      go_wp2
      go_ret2
      exact ⟨(show _ = Ending.returned (Value.tuple #[.slice none 0 0, .string S]) from rfl).trans (by rw [HS.out]), hB.out⟩
set_option maxHeartbeats 1000000 in
set_option maxRecDepth 100000 in
theorem fmt16 (n : Nat) (hn : n < 16777216) (w : World) (hT : Tbs w) :
    Calls Tryz.prog 33 #[.int .i64 ((16777216 + n : Nat) : Int), .int .i64 16] w fun e w' => e = .returned (.string ⟨(49 :: hexL n).toArray⟩) ∧ Below w.heap.size w w' := by
  have hF := fun w hT => bits16 n hn w hT
  have hn2 : ((16777216 + n : Nat) : Int) ≤ 33554432 := by omega
  have hn3 : 16777216 ≤ ((16777216 + n : Nat) : Int) := by omega
  generalize ((16777216 + n : Nat) : Int) = z at hF hn2 hn3 ⊢
  generalize (⟨(49 :: hexL n).toArray⟩ : ByteArray) = S at hF ⊢
  have hI : ∀ w, Tbs w → Calls Tryz.prog 46 #[.int .i64 z, .int .i64 16] w fun e w' => e = .returned (.string S) ∧ Below w.heap.size w w' := by
    intro w hT
    have hx := hF w hT
    have d0 : decide (z < 0) = false := decide_eq_false (by omega)
    have d1 : IntKind.u64.wrap z = z := wraps_u64 _ (by omega) (by omega)
    clear hF
    go_enter Tryz.func46, Tryz.ntmps46
    go_wp2_with (go_at_call 67; with_reducible refine (hx).mono ?_; rintro e w' ⟨rfl, hB⟩)
    go_ret
    exact ⟨rfl, hB⟩
  have hy := hI w hT
  clear hI hF
  go_enter Tryz.func33, Tryz.ntmps33
  go_wp2_with (go_at_call 46; refine (hy).mono ?_; rintro e w' ⟨rfl, hB⟩)
  go_ret
  exact ⟨rfl, hB⟩
end Go.Proofs.Val
set_option linter.unusedVariables false
set_option linter.unusedSimpArgs false
namespace Go.Proofs.Scn
open Go.RowKit Go.Lib Go.Proofs.YtmfhhlgjbjbnhaaGreatDoorW.PrintWords
/-- a fresh row of texts -/
theorem R_strs (l : List ByteArray) (w : World) (e : Nat) (h : l.length ≤ 9223372036854775807) :
    Kd.R Kd.string e (w.alloc (.cells (l.map Value.string).toArray e)) w.heap.size (fun _ => True) (.slice (some ⟨w.heap.size, 0, none⟩) l.length l.length) l := by
  have e1 : (l.map Value.string).length = l.length * 1 := by simp
  refine ⟨fun _ _ => trivial, l.map Value.string, ⟨e1, .inr ⟨w.heap.size, l.length, (l.map Value.string).toArray, rfl, Nat.le_refl _, by simpa using heap_alloc_new w _, Nat.le_refl _, h, (by show (l.map Value.string).toArray.size = l.length * 1; simp), ?_⟩⟩, ?_⟩
  · show List.take (l.length * 1) _ = _
    exact List.take_of_length_le (by simp)
  · exact Kd.reps_scalar l
/-! ### Lower -/
def lowB (c : UInt8) : UInt8 := if 65 ≤ c.toNat ∧ c.toNat ≤ 90 then c + 32 else c
def lowV (s : ByteArray) : ByteArray := ⟨(s.data.toList.map lowB).toArray⟩
/-- the bytes when k of them are done -/
def lowAt (l : List UInt8) (k j : Nat) : Int := ((if j < k then lowB (l.getD j 0) else l.getD j 0).toNat : Int)
theorem lowAt_next {l : List UInt8} {k j : Nat} (h : j ≠ k) : lowAt l (k + 1) j = lowAt l k j := by
  unfold lowAt
  by_cases h1 : j < k
  · rw [if_pos h1, if_pos (by omega)]
  · rw [if_neg h1, if_neg (by omega)]
theorem lowAt_same (l : List UInt8) (k : Nat) : lowAt l (k + 1) k = ((lowB (l.getD k 0)).toNat : Int) := by
  unfold lowAt
  rw [if_pos (by omega)]
theorem lowB_yes {c : UInt8} (h1 : 65 ≤ c.toNat) (h2 : c.toNat ≤ 90) : ((lowB c).toNat : Int) = (c.toNat : Int) + 32 := by
  unfold lowB
  rw [if_pos ⟨h1, h2⟩]
  have : (c + 32).toNat = (c.toNat + 32) % 256 := by simp
  omega
theorem lowB_no {c : UInt8} (h : ¬ (65 ≤ c.toNat ∧ c.toNat ≤ 90)) : lowB c = c := by unfold lowB; rw [if_neg h]
def LowAt (s : ByteArray) (B : Nat) (w wr : World) (k : Nat) : Prop := (∀ j, j < s.size → wr.cell? ⟨B, j, none⟩ = some (.int .u8 (lowAt s.data.toList k j)) ∧ wr.frozen? ⟨B, j, none⟩ = false) ∧ Below w.heap.size w wr
theorem LowAt.start (s : ByteArray) (w : World) (e : TypeId) : LowAt s w.heap.size w (Lib.bytesWorld w e s) 0 := by
  refine ⟨fun j hj => ⟨?_, ?_⟩, ?_⟩
  · rw [Lib.bytesWorld_cell w e s j hj]
    unfold lowAt
    rw [if_neg (by omega)]
  · simp only [World.frozen?, Lib.bytesWorld_at_new]
    have : (Lib.bytesCells w e s).size ≥ s.size := by
      simp only [Lib.bytesCells, Array.size_append, Array.size_map]
      have : s.data.size = s.size := rfl
      omega
    simp
    omega
  · refine ⟨rfl, rfl, rfl, by rw [Lib.bytesWorld_size]; omega, fun k hk => Lib.bytesWorld_at_old w e s k hk⟩
theorem LowAt.keep {s : ByteArray} {B k : Nat} {w wr : World} (h : LowAt s B w wr k) (hk : k < s.size) (hn : ¬ (65 ≤ (s.data.toList.getD k 0).toNat ∧ (s.data.toList.getD k 0).toNat ≤ 90)) : LowAt s B w wr (k + 1) := by
  refine ⟨fun j hj => ⟨?_, (h.1 j hj).2⟩, h.2⟩
  rw [(h.1 j hj).1]
  by_cases e : j = k
  · subst e
    rw [lowAt_same, lowB_no hn]
    unfold lowAt
    rw [if_neg (by omega)]
  · rw [lowAt_next e]
theorem LowAt.put {s : ByteArray} {B k : Nat} {w wr : World} (h : LowAt s B w wr k) (hB : w.heap.size ≤ B) (hk : k < s.size) {v : Int} (hv : v = ((lowB (s.data.toList.getD k 0)).toNat : Int)) : LowAt s B w (wr.setCell ⟨B, k, none⟩ (.int .u8 v)) (k + 1) := by
  refine ⟨fun j hj => ⟨?_, by rw [World.frozen?_setCell]; exact (h.1 j hj).2⟩, h.2.setCell (p := ⟨B, k, none⟩) hB _⟩
  by_cases e : j = k
  · subst e
    rw [lowAt_same, ← hv]
    exact World.cell?_setCell_same' _ _ _ (by rw [(h.1 j hj).1]; rfl)
  · rw [lowAt_next e, ← (h.1 j hj).1]
    exact World.cell?_setCell_other _ _ _ _ (by intro q; injection q with _ q; exact e q.symm)
theorem lowV_nums (s : ByteArray) : strOfNums ((List.range s.size).map (lowAt s.data.toList s.size)) = lowV s := by
  unfold strOfNums lowV
  congr 2
  refine List.ext_getElem? fun j => ?_
  rw [List.map_map, List.getElem?_map, List.getElem?_map]
  by_cases h : j < s.size
  · have h' : j < s.data.toList.length := by rw [← Lib.size_eq]; exact h
    rw [List.getElem?_range h, List.getElem?_eq_getElem h']
    have e : s.data.toList.getD j 0 = s.data.toList[j] := by rw [List.getD_eq_getElem?_getD, List.getElem?_eq_getElem h']; rfl
    simp only [Option.map_some, Function.comp_apply, lowAt]
    rw [if_pos h, e]
    simp
  · have h' : ¬ j < s.data.toList.length := by rw [← Lib.size_eq]; exact h
    rw [List.getElem?_eq_none (by simpa using h), List.getElem?_eq_none (by omega)]
    rfl
set_option maxHeartbeats 2000000 in
set_option maxRecDepth 100000 in
theorem lower_any (s : ByteArray) (w : World) (hs : s.size < 4294967281) :
    Calls Tryz.prog 21 #[.string s] w fun e w' => e = .returned (.string (lowV s)) ∧ Below w.heap.size w w' := by
  have h0 := LowAt.start s w 5
  have hconv := Lib.run_convert_string_bytes (P := Tryz.prog) w 9 56 5 s Tryz.underlying9 Tryz.underlying56 Tryz.underlying5
  obtain ⟨W1, hW1⟩ : ∃ W1, Lib.bytesWorld w 5 s = W1 := ⟨_, rfl⟩
  obtain ⟨cap, hcap⟩ : ∃ cap, grownCap w s.size 0 5 = cap := ⟨_, rfl⟩
  rw [hW1] at h0 hconv
  rw [hcap] at hconv
  have H0 : Aside (LowAt s w.heap.size w W1 0) := h0
  clear hW1 hcap h0
  go_enter Tryz.func21, Tryz.ntmps21
  go_wp2
  clear hconv
  obtain ⟨n, hn⟩ : ∃ n, n = s.size := ⟨_, rfl⟩
  go_loopw [10, 11, 12, 13, 14, 4, 5, 15, 16, 17, 18, 19, 20, 21, 22, 23, 24, 25, 26, 27] (fun i _ _ _ _ _ _ _ _ _ _ _ _ _ _ _ _ _ _ _ wr => ∃ k : Nat, k ≤ s.size ∧ i = .int .i64 k ∧ Aside (LowAt s w.heap.size w wr k)) (fun i _ _ _ _ _ _ _ _ _ _ _ _ _ _ _ _ _ _ _ _ => s.size - (RowKit.intOf i).toNat)
  case atStart => exact ⟨0, Nat.zero_le _, rfl, H0.out⟩
  case round =>
    clear H0
    obtain ⟨k, hk, rfl, A1⟩ := hrel
    by_cases hlt : k < s.size
    · have hltz : (k : Int) < (s.size : Int) := by omega
      obtain ⟨c, hc⟩ : ∃ c, s.data.toList.getD k 0 = c := ⟨_, rfl⟩
      have hcell : wr.cell? ⟨w.heap.size, k, none⟩ = some (.int .u8 (c.toNat : Int)) := by
        rw [(A1.out.1 k hlt).1]
        unfold lowAt
        rw [if_neg (by omega), hc]
      have hfz := (A1.out.1 k hlt).2
      have HC : Aside (s.data.toList.getD k 0 = c) := hc
      have hc256 : c.toNat < 256 := c.toNat_lt
      clear hc
      by_cases h1 : 65 ≤ c.toNat
      · by_cases h2 : c.toNat ≤ 90
        · have g1 : decide ((65 : Int) ≤ (c.toNat : Int)) = true := decide_eq_true (by omega)
          have g2 : decide ((c.toNat : Int) ≤ (90 : Int)) = true := decide_eq_true (by omega)
          go_wp2
          refine ⟨⟨k + 1, by omega, by go_num, A1.out.put (Nat.le_refl _) hlt ?_⟩, by simp [RowKit.intOf]; omega⟩
          rw [HC.out, lowB_yes h1 h2]
          omega
        · have g1 : decide ((65 : Int) ≤ (c.toNat : Int)) = true := decide_eq_true (by omega)
          have g2 : decide ((c.toNat : Int) ≤ (90 : Int)) = false := decide_eq_false (by omega)
          go_wp2
          exact ⟨⟨k + 1, by omega, by go_num, A1.out.keep hlt (by rw [HC.out]; omega)⟩, by simp [RowKit.intOf]; omega⟩
      · have g1 : decide ((65 : Int) ≤ (c.toNat : Int)) = false := decide_eq_false (by omega)
        go_wp2
        exact ⟨⟨k + 1, by omega, by go_num, A1.out.keep hlt (by rw [HC.out]; omega)⟩, by simp [RowKit.intOf]; omega⟩
    · obtain rfl : k = s.size := by omega
      have hltz : ¬ ((s.size : Int) < (s.size : Int)) := by omega
      have hcv := run_convert_bytes_arg (P := Tryz.prog) wr 56 5 Tryz.underlying56 Tryz.underlying5 w.heap.size 0 s.size cap ((List.range s.size).map (lowAt s.data.toList s.size)) (by simp) (fun i hi => by rw [Nat.zero_add, (A1.out.1 i hi).1]; simp [List.getD, hi]) 9 Tryz.underlying9
      rw [lowV_nums] at hcv
      go_wp2
      go_ret
      exact ⟨rfl, A1.out.2⟩
end Go.Proofs.Scn
set_option linter.unusedVariables false
set_option linter.unusedSimpArgs false
namespace Go.Proofs.Scn
open Go.RowKit Go.Lib Go.Proofs.YtmfhhlgjbjbnhaaGreatDoorW.PrintWords
def trimV (s : ByteArray) : ByteArray := ⟨(Lib.trimS s.data.toList [32, 9, 10, 13]).toArray⟩
theorem trim_any (s : ByteArray) (w : World) (hs : s.size < 4294967281) :
    Calls Tryz.prog 22 #[.string s] w fun e w' => e = .returned (.string (trimV s)) ∧ Below w.heap.size w w' := by
  have hcon : ∀ w, Calls Tryz.prog 39 #[.string s, .string ⟨#[32, 9, 10, 13]⟩] w fun e w' => e = .returned (.string (trimV s)) ∧ Below w.heap.size w w' := fun w => Any.strings_Trim_laid Tryz.lays160 (by kernel_rfl) s ⟨#[32, 9, 10, 13]⟩ w (by omega) (by decide) (Val.ascii_all (by decide))
  generalize trimV s = r at hcon ⊢
  go_enter Tryz.func22, Tryz.ntmps22
  go_wp2_with (go_at_call 39; refine (hcon _).mono ?_; rintro e w' ⟨rfl, hB⟩)
  go_ret
  exact ⟨rfl, hB⟩
end Go.Proofs.Scn
namespace Go.Proofs.Val
open Go.RowKit Go.Proofs Go.Proofs.YtmfhhlgjbjbnhaaGreatDoorW.PrintWords
theorem mayV_zero (k n : Int) : mayV 0 k n = false := by
  have e1 : (rec0 0).auto = false := rfl
  have e2 : (rec0 0).length = false := rfl
  have e3 : (rec0 0).part = false := rfl
  have e4 : (rec0 0).color = false := rfl
  have e5 : (rec0 0).number = false := rfl
  have e6 : (rec0 0).wn = 0 := rfl
  unfold mayV
  rw [e1, e2, e3, e4, e5, e6]
  split
  · rfl
  split
  · rfl
  split
  · rfl
  split
  · rfl
  split
  · by_cases h : 0 ≤ n
    · rw [decide_eq_true h, decide_eq_false (by omega)]; rfl
    · rw [decide_eq_false h]; rfl
  split <;> rfl
theorem recA0 (wa : Option Addr) : recV (recA 0 wa) = .agg #[.string ⟨#[]⟩, .bool false, .bool false, .bool false, .bool false, .bool false, .bool false, .slice wa 0 0, .int .i64 0, .int .i64 0] := rfl
set_option maxHeartbeats 2000000 in
theorem mayOut (p : Int) (hp : ¬ (1 ≤ p ∧ p ≤ 26)) (k n : Int) (w : World) :
    Calls Tryz.prog 11 #[.int .i64 p, .agg #[.int .i64 k, .int .i64 n]] w fun e w' => e = .returned (.bool false) ∧ Below w.heap.size w w' := by
  have hO := fun w => ofP p w
  simp only [cl_out hp, decide_eq_false hp, recA0] at hO
  clear hp
  go_enter Tryz.func11, Tryz.ntmps11
  go_upto_region 3 with (first | (go_at_call 19; refine (hO _).mono ?_; rintro e w1 ⟨wa, rfl, hS, hB⟩; clear hS; obtain ⟨hc, hf⟩ := bcell hB; have hz : w.heap.size < w1.heap.size := by (have hs := hB.size; rw [alloc_size] at hs; omega)))
  have p1 : Below w.heap.size w w1 := ((Below.refl _ _).alloc (Nat.le_refl _) _).trans (hB.mono (by rw [alloc_size]; omega))
  have P1 := Lib.hid (below_alloc p1 (.cells #[.string ⟨#[]⟩, .bool false, .bool false, .bool false, .bool false, .bool false, .bool false, .slice wa 0 0, .int .i64 0, .int .i64 0] 36))
  clear hB p1 hO
  go_upto_region 5 with fail
  by_cases k1 : k = 1
  · subst k1
    go_wp2
    go_ret
    exact ⟨rfl, P1.out⟩
  have f1 : (k == 1) = false := by simp [k1]
  by_cases k2 : k = 2
  · subst k2
    go_wp2; go_quiet (fail); go_wp2
    go_ret
    exact ⟨rfl, pw_below_drewN P1.out _⟩
  have f2 : (k == 2) = false := by simp [k2]
  by_cases k3 : k = 3
  · subst k3
    go_wp2; go_quiet (fail); go_wp2
    go_ret
    exact ⟨rfl, pw_below_drewN P1.out _⟩
  have f3 : (k == 3) = false := by simp [k3]
  by_cases k4 : k = 4
  · subst k4
    go_wp2
    go_ret
    exact ⟨rfl, P1.out⟩
  have f4 : (k == 4) = false := by simp [k4]
  by_cases k5 : k = 5
  · subst k5
    by_cases ha : (0 : Int) ≤ n
    · have ga : decide ((0 : Int) ≤ n) = true := decide_eq_true ha
      have gb : decide (n < (0 : Int)) = false := decide_eq_false (by omega)
      go_wp2
      go_ret
      exact ⟨rfl, P1.out⟩
    · have ga : decide ((0 : Int) ≤ n) = false := decide_eq_false ha
      go_wp2
      go_ret
      exact ⟨rfl, P1.out⟩
  have f5 : (k == 5) = false := by simp [k5]
  by_cases k6 : k = 6
  · subst k6
    go_wp2; go_quiet (fail); go_wp2
    go_ret
    exact ⟨rfl, pw_below_drewN P1.out _⟩
  have f6 : (k == 6) = false := by simp [k6]
  go_wp2
  go_ret
  exact ⟨rfl, P1.out⟩
theorem mayP (p k n : Int) (w : World) :
    Calls Tryz.prog 11 #[.int .i64 p, .agg #[.int .i64 k, .int .i64 n]] w fun e w' => e = .returned (.bool (mayV (cl p) k n)) ∧ Below w.heap.size w w' := by
  by_cases hp : 1 ≤ p ∧ p ≤ 26
  · obtain ⟨q, rfl⟩ : ∃ q : Nat, p = (q : Int) := ⟨p.toNat, by omega⟩
    rw [cl_in hp.1 hp.2, Int.toNat_natCast]
    exact mayC q (by omega) (by omega) k n w
  · rw [cl_out hp, mayV_zero]
    exact mayOut p hp k n w
end Go.Proofs.Val
