/- value.decimal of every number that may be told: its contract, proved by walking its text; no condition beside those that each theorem states. -/
import Derived.Test.YtmfhhlgjbjbnhaaDoorVaQ
import Derived.Test.YtmfhhlgjbjbnhaaDoorVaB
import Derived.Laws.BytesArg
set_option linter.unusedVariables false
set_option linter.unusedSimpArgs false
namespace Go.Proofs.Val
open Go.RowKit Go.Proofs Go.Proofs.YtmfhhlgjbjbnhaaDoorW.PrintWords
/-- the tables of the library that numbers' texts are made by -/
structure Tbs (w : World) : Prop where
  p10 : Lib.TabIs Tryd.prog w "internal/strconv.uint64pow10" .u64 Lib.pow10Tab
  tz : w.cell? ⟨2, 15, none⟩ = some (.int .u8 4)
theorem gn10 : Tryd.prog.globalNamed "internal/strconv.uint64pow10" = some 0 := by kernel_rfl
theorem Tbs.below {w w' : World} (h : Tbs w) (hb : Below w.heap.size w w') : Tbs w' := by
  refine ⟨?_, (hb.cell (p := ⟨2, 15, none⟩) (World.block_lt_of_cell? _ _ h.tz)).trans h.tz⟩
  have h1 := h.p10
  unfold Lib.TabIs World.var? at h1 ⊢
  rw [gn10] at h1 ⊢
  simp only [Option.bind_some] at h1 ⊢
  have hlt : 0 < w.heap.size := by
    rcases Nat.lt_or_ge 0 w.heap.size with h' | h'
    · exact h'
    · rw [Array.getElem?_eq_none h'] at h1; cases h1
  rw [hb.block _ hlt]
  exact h1
theorem Tbs.draws {w : World} (h : Tbs w) (n : Nat) : Tbs (w.drewN n) := ⟨h.p10, h.tz⟩
theorem grow_below (w : World) (q : Nat) (os : Array Obj) : Below w.heap.size w (Go.Sort.grow (w.drewN q) os) :=
  ⟨rfl, rfl, rfl, by first | (simp [Go.Sort.grow]; done) | (simp [Go.Sort.grow]; omega), fun i hi => by
    show ((w.drewN q).heap ++ os)[i]? = _
    rw [Array.getElem?_append_left (by show i < w.heap.size; omega)]
    rfl⟩
theorem fmt10 (u : Nat) (hu : u ≤ 1000000000) (w : World) (hT : Tbs w) :
    Calls Tryd.prog 30 #[.int .i64 (u : Int), .int .i64 10] w fun e w' => e = .returned (.string ⟨(Lib.decDigits u).toArray⟩) ∧ Below w.heap.size w w' := by
  refine (Tryd.strconv_FormatInt_10 (u : Int) (by omega) (by omega) w hT.p10).mono ?_
  rintro e w' ⟨rfl, k, os, rfl⟩
  exact ⟨by rw [Lib.itoa_nonneg], grow_below _ _ _⟩
theorem trB (l : List UInt8) : Lib.trimRightB l 48 = Lib.trimRightS l [48] := by
  unfold Lib.trimRightB Lib.trimRightS
  congr 2
  funext c
  by_cases h : c = 48 <;> simp [h]
set_option maxHeartbeats 2000000 in
theorem decimalC (n : Int) (h1 : -63999999999 ≤ n) (h2 : n ≤ 63999999999) (w : World) (hT : Tbs w) :
    Calls Tryd.prog 32 #[.int .i64 n] w fun e w' => e = .returned (.string ⟨(decL n).toArray⟩) ∧ Below w.heap.size w w' := by
  have HL := Lib.hid (show decL n = Lib.trimSuffix ((if n < 0 then [45] else []) ++ Lib.decDigits (n.natAbs / 64) ++ ([46] ++ fracL (n.natAbs % 64))) [46] from rfl)
  obtain ⟨m, hm⟩ : ∃ m, n.natAbs = m := ⟨_, rfl⟩
  rw [hm] at HL
  obtain ⟨q, hq⟩ : ∃ q, m / 64 = q := ⟨_, rfl⟩
  obtain ⟨r, hr⟩ : ∃ r, m % 64 = r := ⟨_, rfl⟩
  rw [hq, hr] at HL
  have hr64 : r < 64 := by omega
  obtain ⟨six, s1, s2, s3, s4⟩ := dd_seven (r := r * 15625) (by omega)
  have hA := fun w hT => fmt10 q (by omega) w hT
  have hB := fun w hT => fmt10 (1000000 + r * 15625) (by omega) w hT
  have lq := dd_len (u := q) (k := 9) (by omega) (by simp; omega)
  rw [s1] at hB
  have ex : (⟨(49 :: six).toArray⟩ : ByteArray).extract 1 (⟨(49 :: six).toArray⟩ : ByteArray).size = ⟨six.toArray⟩ := by
    rw [Lib.extract_mk]
    congr 2
    rw [ba_size]
    simp
  have fr : (⟨(Lib.trimRightB (⟨six.toArray⟩ : ByteArray).data.toList 48).toArray⟩ : ByteArray) = ⟨(fracL r).toArray⟩ := by
    rw [show (⟨six.toArray⟩ : ByteArray).data.toList = six from rfl, trB]
    unfold fracL
    rw [s1]; rfl
  have lf := (frac_ok hr64).2.1
  have sz7 : (⟨(49 :: six).toArray⟩ : ByteArray).size = 7 := by rw [ba_size]; simp [s2]
  have hC := fun w => Tryd.strings_TrimRight_one ⟨six.toArray⟩ 48 (by decide) w (by rw [ba_size]; omega)
  rw [fr] at hC
  rw [← ex] at hC
  obtain ⟨sb, hsb⟩ : ∃ sb : ByteArray, ⟨(49 :: six).toArray⟩ = sb := ⟨_, rfl⟩
  rw [hsb] at hB hC sz7
  clear fr ex hsb s1 s2 s3 s4
  have z1 : 1 ≤ sb.size ∧ sb.size ≤ 7 := by omega
  clear sz7
  have e1 : ((1000000 + r * 15625 : Nat) : Int) = 1000000 + (m : Int) % 64 * 15625 := by omega
  have e2 : ((q : Nat) : Int) = (m : Int) / 64 := by omega
  rw [e1] at hB
  rw [e2] at hA
  have hm64 : (m : Int) ≤ 63999999999 := by omega
  have m0 : 0 ≤ (m : Int) := by omega
  obtain ⟨M, hM⟩ : ∃ M : Int, (m : Int) = M := ⟨_, rfl⟩
  rw [hM] at hA hB hm64 m0
  obtain ⟨fb, hfb⟩ : ∃ fb : List UInt8, fracL r = fb := ⟨_, rfl⟩
  obtain ⟨wb, hwb⟩ : ∃ wb : List UInt8, Lib.decDigits q = wb := ⟨_, rfl⟩
  rw [hfb] at hC lf HL
  rw [hwb] at hA lq HL
  have zf := ba_size fb
  have zw := ba_size wb
  by_cases hn : n < 0
  · rw [if_pos hn] at HL
    have hS := fun w => Tryd.strings_TrimSuffix (((⟨#[45]⟩ : ByteArray) ++ ⟨wb.toArray⟩) ++ ⟨#[46]⟩ ++ ⟨fb.toArray⟩) ⟨#[46]⟩ w (by
      rw [show (⟨#[45]⟩ : ByteArray) = ⟨([45] : List UInt8).toArray⟩ from rfl, show (⟨#[46]⟩ : ByteArray) = ⟨([46] : List UInt8).toArray⟩ from rfl, ba_app, ba_app, ba_app, ba_size]; simp; omega)
    have hk1 : (⟨#[45]⟩ : ByteArray).size + (⟨wb.toArray⟩ : ByteArray).size ≤ 9223372036854775807 := by rw [ba_size]; show 1 + _ ≤ _; omega
    have hk2 : ((⟨#[45]⟩ : ByteArray) ++ ⟨wb.toArray⟩).size + (⟨#[46]⟩ : ByteArray).size ≤ 9223372036854775807 := by rw [show (⟨#[45]⟩ : ByteArray) = ⟨([45] : List UInt8).toArray⟩ from rfl, ba_app, ba_size]; show (_ + 1) ≤ _; simp; omega
    have hk3 : (((⟨#[45]⟩ : ByteArray) ++ ⟨wb.toArray⟩) ++ (⟨#[46]⟩ : ByteArray)).size + (⟨fb.toArray⟩ : ByteArray).size ≤ 9223372036854775807 := by rw [show (⟨#[45]⟩ : ByteArray) = ⟨([45] : List UInt8).toArray⟩ from rfl, show (⟨#[46]⟩ : ByteArray) = ⟨([46] : List UInt8).toArray⟩ from rfl, ba_app, ba_app, ba_size, ba_size]; simp; omega
    have fin : (⟨(Lib.trimSuffix (((⟨#[45]⟩ : ByteArray) ++ ⟨wb.toArray⟩) ++ ⟨#[46]⟩ ++ ⟨fb.toArray⟩ : ByteArray).data.toList (⟨#[46]⟩ : ByteArray).data.toList).toArray⟩ : ByteArray) = ⟨(decL n).toArray⟩ := by
      rw [show (⟨#[45]⟩ : ByteArray) = ⟨([45] : List UInt8).toArray⟩ from rfl, show (⟨#[46]⟩ : ByteArray) = ⟨([46] : List UInt8).toArray⟩ from rfl, ba_app, ba_app, ba_app, HL.out]
      simp
    rw [fin] at hS
    obtain ⟨D, hD⟩ : ∃ D : ByteArray, ⟨(decL n).toArray⟩ = D := ⟨_, rfl⟩
    rw [hD] at hS ⊢
    obtain ⟨Fb, hFb⟩ : ∃ D : ByteArray, ⟨fb.toArray⟩ = D := ⟨_, rfl⟩
    obtain ⟨Wb, hWb⟩ : ∃ D : ByteArray, ⟨wb.toArray⟩ = D := ⟨_, rfl⟩
    rw [hFb] at hC hS hk3
    rw [hWb] at hA hS hk1 hk2 hk3
    obtain rfl : n = -M := by omega
    clear fin hD hFb hWb HL zf zw hfb hwb hM e1 e2 hq hr hm hr64 lf lq
    go_enter Tryd.func32, Tryd.ntmps32
    go_wp2_with (first | (go_at_call 30; first | (with_reducible refine (hA _ hT).mono ?_; rintro e w1 ⟨rfl, hB1⟩) | (with_reducible refine (hB _ (hT.below hB1)).mono ?_; rintro e w2 ⟨rfl, hB2⟩)) | (go_at_call 47; with_reducible refine (hC _).mono ?_; rintro e w3 ⟨rfl, rfl⟩) | (go_at_call 46; with_reducible refine (hS _).mono ?_; rintro e w4 ⟨rfl, rfl⟩))
    go_ret
    exact ⟨rfl, below_then hB1 hB1.size hB2⟩
  · rw [if_neg hn] at HL
    have hS := fun w => Tryd.strings_TrimSuffix (((⟨#[]⟩ : ByteArray) ++ ⟨wb.toArray⟩) ++ ⟨#[46]⟩ ++ ⟨fb.toArray⟩) ⟨#[46]⟩ w (by
      rw [show (⟨#[]⟩ : ByteArray) = ⟨([] : List UInt8).toArray⟩ from rfl, show (⟨#[46]⟩ : ByteArray) = ⟨([46] : List UInt8).toArray⟩ from rfl, ba_app, ba_app, ba_app, ba_size]; simp; omega)
    have hk1 : (⟨#[]⟩ : ByteArray).size + (⟨wb.toArray⟩ : ByteArray).size ≤ 9223372036854775807 := by rw [ba_size]; show 0 + _ ≤ _; omega
    have hk2 : ((⟨#[]⟩ : ByteArray) ++ ⟨wb.toArray⟩).size + (⟨#[46]⟩ : ByteArray).size ≤ 9223372036854775807 := by rw [show (⟨#[]⟩ : ByteArray) = ⟨([] : List UInt8).toArray⟩ from rfl, ba_app, ba_size]; show (_ + 1) ≤ _; simp; omega
    have hk3 : (((⟨#[]⟩ : ByteArray) ++ ⟨wb.toArray⟩) ++ (⟨#[46]⟩ : ByteArray)).size + (⟨fb.toArray⟩ : ByteArray).size ≤ 9223372036854775807 := by rw [show (⟨#[]⟩ : ByteArray) = ⟨([] : List UInt8).toArray⟩ from rfl, show (⟨#[46]⟩ : ByteArray) = ⟨([46] : List UInt8).toArray⟩ from rfl, ba_app, ba_app, ba_size, ba_size]; simp; omega
    have fin : (⟨(Lib.trimSuffix (((⟨#[]⟩ : ByteArray) ++ ⟨wb.toArray⟩) ++ ⟨#[46]⟩ ++ ⟨fb.toArray⟩ : ByteArray).data.toList (⟨#[46]⟩ : ByteArray).data.toList).toArray⟩ : ByteArray) = ⟨(decL n).toArray⟩ := by
      rw [show (⟨#[]⟩ : ByteArray) = ⟨([] : List UInt8).toArray⟩ from rfl, show (⟨#[46]⟩ : ByteArray) = ⟨([46] : List UInt8).toArray⟩ from rfl, ba_app, ba_app, ba_app, HL.out]
      simp
    rw [fin] at hS
    obtain ⟨D, hD⟩ : ∃ D : ByteArray, ⟨(decL n).toArray⟩ = D := ⟨_, rfl⟩
    rw [hD] at hS ⊢
    obtain ⟨Fb, hFb⟩ : ∃ D : ByteArray, ⟨fb.toArray⟩ = D := ⟨_, rfl⟩
    obtain ⟨Wb, hWb⟩ : ∃ D : ByteArray, ⟨wb.toArray⟩ = D := ⟨_, rfl⟩
    rw [hFb] at hC hS hk3
    rw [hWb] at hA hS hk1 hk2 hk3
    obtain rfl : n = M := by omega
    clear fin hD hFb hWb HL zf zw hfb hwb hM e1 e2 hq hr hm hr64 lf lq
    go_enter Tryd.func32, Tryd.ntmps32
    go_wp2_with (first | (go_at_call 30; first | (with_reducible refine (hA _ hT).mono ?_; rintro e w1 ⟨rfl, hB1⟩) | (with_reducible refine (hB _ (hT.below hB1)).mono ?_; rintro e w2 ⟨rfl, hB2⟩)) | (go_at_call 47; with_reducible refine (hC _).mono ?_; rintro e w3 ⟨rfl, rfl⟩) | (go_at_call 46; with_reducible refine (hS _).mono ?_; rintro e w4 ⟨rfl, rfl⟩))
    go_ret
    exact ⟨rfl, below_then hB1 hB1.size hB2⟩
end Go.Proofs.Val
