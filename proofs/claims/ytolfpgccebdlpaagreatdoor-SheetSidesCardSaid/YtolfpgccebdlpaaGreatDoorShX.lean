/- Contracts of functions of Go's library over any program and numbering: IndexAny of any text, Cut and Split at one byte; no condition beside those that each theorem states. -/
import Derived.Shelf.Strings.IndexAnyAll
import Derived.Shelf.Strings.SplitShaped
import Derived.Shelf.Strings.SlTrimAscii
import Derived.Shelf.RegionOpenPlain
import Derived.Laws.RangeAny
import Derived.BigQuiet
import Derived.Shelf.Small.Utf8
import Derived.IntWalk
import Derived.Lib.Hide
import Derived.Lib.OthersKept
set_option linter.unusedVariables false
set_option linter.unusedSimpArgs false
namespace Go.Proofs.ShX
open Go.Shelf Go.RowKit Go.Lib
variable {P : Program} {ρ : Ren}
theorem below_draws {B : Nat} {a w : World} (h : Below B a w) (n : Nat) : Below B a (w.drewN n) := h.trans ⟨rfl, rfl, rfl, Nat.le_refl _, fun _ _ => rfl⟩
theorem ofNat_high (n : Nat) : 128 ≤ (UInt8.ofNat (0x80 + n % 64)).toNat := by
  simp only [UInt8.toNat_ofNat']
  omega
theorem enc_parts (r : Int) (h0 : 128 ≤ r) : ∃ pre c, Utf8.encode r = ⟨(pre ++ [c]).toArray⟩ ∧ 1 ≤ pre.length ∧ pre.length ≤ 3 ∧ 128 ≤ c.toNat := by
  have hv : ¬ (if Utf8.valid r then r.toNat else Utf8.runeError) < 0x80 := by
    split
    · omega
    · simp [Utf8.runeError]
  unfold Utf8.encode
  dsimp only
  generalize (if Utf8.valid r then r.toNat else Utf8.runeError) = c at hv
  rw [if_neg hv]
  by_cases h1 : c < 0x800
  · rw [if_pos h1]
    exact ⟨[UInt8.ofNat (0xC0 + c / 64)], _, rfl, by simp, by simp, ofNat_high _⟩
  · rw [if_neg h1]
    by_cases h2 : c < 0x10000
    · rw [if_pos h2]
      exact ⟨[UInt8.ofNat (0xE0 + c / 4096), UInt8.ofNat (0x80 + c / 64 % 64)], _, rfl, by simp, by simp, ofNat_high _⟩
    · rw [if_neg h2]
      exact ⟨[UInt8.ofNat (0xF0 + c / 262144), UInt8.ofNat (0x80 + c / 4096 % 64), UInt8.ofNat (0x80 + c / 64 % 64)], _, rfl, by simp, by simp, ofNat_high _⟩
theorem enc_at (r : Int) (h0 : 128 ≤ r) : ∃ (n : Nat) (c : UInt8), (Utf8.encode r).size = n + 1 ∧ 1 ≤ n ∧ n ≤ 3 ∧ 128 ≤ c.toNat ∧ ∀ h : n < (Utf8.encode r).size, (Utf8.encode r)[n]'h = c := by
  obtain ⟨pre, c, he, h1, h3, hc⟩ := enc_parts r h0
  refine ⟨pre.length, c, ?_, h1, h3, hc, ?_⟩
  · rw [he, Lib.size_mk]; simp
  · intro h
    have e := Lib.data_getElem? (Utf8.encode r) pre.length h
    have e2 : (Utf8.encode r).data.toList[pre.length]? = some c := by rw [he]; simp
    rw [e2] at e
    exact (Option.some.inj e).symm
theorem run_rune_string {P : Program} {a b : TypeId} {k : IntKind} (r : Int) (w : World) (ha : P.underlying a = some (.int k)) (hb : P.underlying b = some .string) : (convert a b (.int k r)).run P w = .ok (.string (Utf8.encode r)) w := by
  simp [convert, run_underlying ha, run_underlying hb, Conv.intToString]
theorem enc_conv {P : Program} {a b : TypeId} {k : IntKind} (r : Int) (h0 : 128 ≤ r) (ha : P.underlying a = some (.int k)) (hb : P.underlying b = some .string) : ∃ (rs : ByteArray) (n : Nat) (c : UInt8), rs.size = n + 1 ∧ 1 ≤ n ∧ n ≤ 3 ∧ 128 ≤ c.toNat ∧ (∀ h : n < rs.size, rs[n]'h = c) ∧ ∀ w, (convert a b (.int k r)).run P w = .ok (.string rs) w := by
  obtain ⟨n, c, h1, h2, h3, h4, h5⟩ := enc_at r h0
  exact ⟨_, n, c, h1, h2, h3, h4, h5, fun w => run_rune_string r w ha hb⟩
theorem indexByte_high : ∀ (l : List UInt8) (c : UInt8), (∀ (j : Nat) b, l[j]? = some b → b.toNat < 128) → 128 ≤ c.toNat → indexByte l c = -1
  | [], _, _, _ => rfl
  | b :: l, c, h, hc => by
    have hb : b.toNat < 128 := h 0 b rfl
    have ih := indexByte_high l c (fun j y hy => h (j + 1) y (by simpa using hy)) hc
    have hne : (b == c) = false := by
      rw [beq_eq_false_iff_ne]
      rintro rfl
      omega
    rw [indexByte, hne, ih]
    rfl
theorem ascii_extract {s : ByteArray} (h : ∀ (j : Nat) b, s.data.toList[j]? = some b → b.toNat < 128) (a b : Nat) : ∀ (j : Nat) c, (s.extract a b).data.toList[j]? = some c → c.toNat < 128 := fun j c hj => by
  rw [Lib.extract_data] at hj
  exact h (a + j) c (by
    rw [List.getElem?_take] at hj
    split at hj
    · rw [List.getElem?_drop] at hj; exact hj
    · cases hj)
set_option maxHeartbeats 2000000 in
set_option maxRecDepth 1000000 in
theorem xIndexRune_high (L : Lays.n152 P ρ) (s : ByteArray) (r : Int) (w : World) (h0 : 128 ≤ r) (hr : r ≤ 2147483647) (hs : s.size ≤ 1000) (has : ∀ (j : Nat) b, s.data.toList[j]? = some b → b.toNat < 128) :
    Calls P (ρ.f 152) #[.string s, .int .i32 r] w fun e w' => e = .returned (.int .i64 (-1)) ∧ Below w.heap.size w w' := by
  have HA : Aside (∀ (j : Nat) b, s.data.toList[j]? = some b → b.toNat < 128) := has
  clear has
  have g0 : decide (r < 128) = false := decide_eq_false (by omega)
  have g1 : decide (0 ≤ r) = true := decide_eq_true (by omega)
  have mixed := L.mixed
  have t0 := L.t0; have a0 := L.a0; have z0 := L.z0; have v0 := L.v0
  have t3 := L.t3; have a3 := L.a3; have z3 := L.z3; have v3 := L.v3
  have t4 := L.t4; have a4 := L.a4; have z4 := L.z4; have v4 := L.v4
  have t5 := L.t5; have a5 := L.a5; have z5 := L.z5; have v5 := L.v5
  have t9 := L.t9; have a9 := L.a9; have z9 := L.z9; have v9 := L.v9
  have t21 := L.t21; have a21 := L.a21; have z21 := L.z21; have v21 := L.v21
  have e137 : ∀ args w, (callFunc (ρ.f 137) args).run P w = .ok (.enter (ρ.f 137) args) w := enters_of L.f137 (by kernel_rfl) rfl
  have e119 : ∀ args w, (callFunc (ρ.f 119) args).run P w = .ok (.enter (ρ.f 119) args) w := enters_of L.f119 (by kernel_rfl) rfl
  by_cases hE : r = 65533
  · subst hE
    go_enter L.f152, Body.n152_ntmps ρ
    go_wp2
    go_loopg [176, 177, 178, 179, 5, 6, 180, 181] s.size (fun g _ _ _ _ _ _ _ _ wx => ∃ i : Nat, i + g = s.size ∧ wx = w.iter s i)
    case atStart => exact ⟨0, by omega, rfl⟩
    case round =>
      obtain ⟨i, hig, rfl⟩ := hrel
      cases gk with
      | zero =>
        obtain rfl : i = s.size := by omega
        have hnx := run_next_end (P := P) w s s.size
        go_wp2
        go_ret
        exact ⟨rfl, (Below.refl _ _).alloc (Nat.le_refl _) _⟩
      | succ g =>
        have hi : i < s.size := by omega
        obtain ⟨x, hx⟩ : ∃ x : UInt8, s[i]'hi = x := ⟨_, rfl⟩
        have hxl : s.data.toList[i]? = some x := by rw [← hx]; exact Lib.data_getElem? s i hi
        have hx128 : x.toNat < 128 := HA.out i x hxl
        have hnx := fun ty => run_next_ascii (P := P) w s i ty hi (by rw [hx]; exact hx128)
        rw [hx] at hnx
        clear hxl hx
        have g3 : ((x.toNat : Int) == 65533) = false := by simp; omega
        go_wp2
        go_roundg g
        case measure => omega
        case rel => exact ⟨i + 1, by omega, rfl⟩
  · have g2 : (r == 65533) = false := by simpa using hE
    cases hv : Lib.validRune r
    · go_enter L.f152, Body.n152_ntmps ρ
      go_wp2_with (go_at_fn (ρ.f 119); refine (Any.utf8_ValidRune { L with } _ _).mono ?_; rintro e w' ⟨rfl, hw⟩; rw [hw, hv])
      go_ret
      exact ⟨rfl, Below.refl _ _⟩
    · obtain ⟨rs, n, c, hsz, hn1, hn3, hc, hat, hconv⟩ := enc_conv (P := P) (k := .i32) r h0 L.t21 L.t9
      by_cases hlt : n < s.size
      · have hltz : (n : Int) < (s.size : Int) := by omega
        obtain ⟨x, hx⟩ : ∃ x : UInt8, s[n]'hlt = x := ⟨_, rfl⟩
        have hx128 : x.toNat < 128 := HA.out n x (by rw [← hx]; exact Lib.data_getElem? s n hlt)
        have g3 : ((x.toNat : Int) != (c.toNat : Int)) = true := by simp; omega
        have HRN : Hid (n < rs.size) := Lib.hid (by omega)
        have c1 : (0 : Int) ≤ (n : Int) + 1 := by omega
        have c2 : (n : Int) + 1 ≤ (s.size : Int) := by omega
        have hib : Lib.indexByte (s.extract (n + 1) s.size).data.toList c = -1 := indexByte_high _ _ (ascii_extract HA.out _ _) hc
        rw [Lib.extract_data] at hib
        go_enter L.f152, Body.n152_ntmps ρ
        go_wp2_with (go_at_fn (ρ.f 119); refine (Any.utf8_ValidRune { L with } _ _).mono ?_; rintro e w' ⟨rfl, hw⟩; rw [hw, hv])
        go_step3
        go_wp2
        refine wp_loop_rounds 1 ?_
        rw [rounds_succ]
        go_wp2
        go_step3
        go_wp2
        clear hsz
        have hrn := HRN.out
        have hrz : (n : Int) < (rs.size : Int) := by omega
        go_quiet_o (fail)
        go_wp2
        have hw1 : IntKind.i64.wrap ((n : Int) + 1) = (n : Int) + 1 := IntWalk.i64_in _ (by omega)
        have hw2 : ((n : Int) + 1).toNat = n + 1 := by omega
        go_quiet_o ((go_at_fn (ρ.f 137); refine (Any.strings_IndexByte { L with } _ _ _).mono ?_; rintro e w' ⟨rfl, rfl⟩; exact ⟨rfl, _, rfl⟩))
        clear hw1 hw2
        go_wp2
        rw [Exit.noGoto_ret]
        try simp only [Exit.inBlock, Exit.noGoto_ret, Exit.then]
        go_ret
        exact ⟨rfl, below_draws (Below.refl _ _) _⟩
      · have hltz : ¬ (n : Int) < (s.size : Int) := by omega
        go_enter L.f152, Body.n152_ntmps ρ
        go_wp2_with (go_at_fn (ρ.f 119); refine (Any.utf8_ValidRune { L with } _ _).mono ?_; rintro e w' ⟨rfl, hw⟩; rw [hw, hv])
        go_step3
        go_wp2
        refine wp_loop_rounds 1 ?_
        rw [rounds_succ]
        go_wp2
        rw [Exit.noGoto_ret]
        go_ret
        exact ⟨rfl, Below.refl _ _⟩
theorem decode_span (s : ByteArray) (pos : Nat) (h : pos < s.size) (ha : 128 ≤ (s[pos]'h).toNat) : 1 ≤ (Utf8.decode s pos).2 ∧ pos + (Utf8.decode s pos).2 ≤ s.size ∧ ∀ (j : Nat) b, j < (Utf8.decode s pos).2 → s.data.toList[pos + j]? = some b → 128 ≤ b.toNat := by
  have hn : ¬ (s[pos]'h).toNat < 128 := by omega
  have at0 : ∀ (k : Nat) b, s.data.toList[pos + k]? = some b → (s.get! (pos + k)) = b := fun k b hb => by
    have hk : pos + k < s.size := by
      have := List.getElem?_eq_some_iff.1 hb
      obtain ⟨h1, _⟩ := this
      rw [Lib.size_eq]; exact h1
    have e := Lib.data_getElem? s (pos + k) hk
    rw [e] at hb
    have := get_at s (pos + k) hk
    simp only [Nat.add_zero] at this
    rw [this]
    exact Option.some.inj hb
  have b0 : ∀ b, s.data.toList[pos + 0]? = some b → 128 ≤ b.toNat := fun b hb => by
    have e := Lib.data_getElem? s pos h
    rw [Nat.add_zero, e] at hb
    cases hb
    exact ha
  have bk : ∀ (k : Nat) b, (pos + k < s.size && (s.get! (pos + k)).toNat / 64 == 2) = true → s.data.toList[pos + k]? = some b → 128 ≤ b.toNat := fun k b hc hb => by
    rw [at0 k b hb] at hc
    simp at hc
    omega
  have lt : ∀ (k : Nat), (pos + k < s.size && (s.get! (pos + k)).toNat / 64 == 2) = true → pos + k < s.size := fun k hc => by simp at hc; exact hc.1
  have one : ∀ (j : Nat) b, j < 1 → s.data.toList[pos + j]? = some b → 128 ≤ b.toNat := fun j b hj hb => by
    obtain rfl : j = 0 := by omega
    exact b0 b hb
  have base : 1 ≤ 1 ∧ pos + 1 ≤ s.size ∧ ∀ (j : Nat) b, j < 1 → s.data.toList[pos + j]? = some b → 128 ≤ b.toNat := ⟨Nat.le_refl _, by omega, one⟩
  simp only [Utf8.decode, get_at s pos h, hn, if_false]
  by_cases c2 : ((s[pos]'h).toNat / 32 == 6 && (pos + 1 < s.size && (s.get! (pos + 1)).toNat / 64 == 2)) = true
  · rw [if_pos c2]
    have c21 : (pos + 1 < s.size && (s.get! (pos + 1)).toNat / 64 == 2) = true := ((Bool.and_eq_true _ _).mp c2).2
    split
    · refine ⟨by omega, by have := lt 1 c21; omega, fun j b hj hb => ?_⟩
      rcases (by omega : j = 0 ∨ j = 1) with rfl | rfl
      · exact b0 b hb
      · exact bk 1 b c21 hb
    · exact base
  · rw [if_neg c2]
    by_cases c3 : ((s[pos]'h).toNat / 16 == 14 && (pos + 1 < s.size && (s.get! (pos + 1)).toNat / 64 == 2) && (pos + 2 < s.size && (s.get! (pos + 2)).toNat / 64 == 2)) = true
    · rw [if_pos c3]
      have c32 := ((Bool.and_eq_true _ _).mp c3).2
      have c31 := ((Bool.and_eq_true _ _).mp ((Bool.and_eq_true _ _).mp c3).1).2
      split
      · refine ⟨by omega, by have := lt 2 c32; omega, fun j b hj hb => ?_⟩
        rcases (by omega : j = 0 ∨ j = 1 ∨ j = 2) with rfl | rfl | rfl
        · exact b0 b hb
        · exact bk 1 b c31 hb
        · exact bk 2 b c32 hb
      · exact base
    · rw [if_neg c3]
      by_cases c4 : ((s[pos]'h).toNat / 8 == 30 && (pos + 1 < s.size && (s.get! (pos + 1)).toNat / 64 == 2) && (pos + 2 < s.size && (s.get! (pos + 2)).toNat / 64 == 2) && (pos + 3 < s.size && (s.get! (pos + 3)).toNat / 64 == 2)) = true
      · rw [if_pos c4]
        have c43 := ((Bool.and_eq_true _ _).mp c4).2
        have c4' := ((Bool.and_eq_true _ _).mp c4).1
        have c42 := ((Bool.and_eq_true _ _).mp c4').2
        have c41 := ((Bool.and_eq_true _ _).mp ((Bool.and_eq_true _ _).mp c4').1).2
        split
        · refine ⟨by omega, by have := lt 3 c43; omega, fun j b hj hb => ?_⟩
          rcases (by omega : j = 0 ∨ j = 1 ∨ j = 2 ∨ j = 3) with rfl | rfl | rfl | rfl
          · exact b0 b hb
          · exact bk 1 b c41 hb
          · exact bk 2 b c42 hb
          · exact bk 3 b c43 hb
        · exact base
      · rw [if_neg c4]
        exact base
theorem noAny_span {s chars : List UInt8} {i d : Nat} (h : NoAny s chars i) (hac : ∀ (j : Nat) b, chars[j]? = some b → b.toNat < 128) (hd : ∀ (j : Nat) b, j < d → s[i + j]? = some b → 128 ≤ b.toNat) : NoAny s chars (i + d) := fun j b hj hb => by
  by_cases e : j < i
  · exact h j b e hb
  · have h2 := hd (j - i) b (by omega) (by rw [show i + (j - i) = j by omega]; exact hb)
    cases hc : chars.contains b
    · rfl
    · have := List.contains_iff_mem.1 hc
      obtain ⟨k, hk⟩ := List.getElem?_of_mem this
      have := hac k b hk
      omega
set_option maxHeartbeats 8000000 in
set_option maxRecDepth 1000000 in
theorem xIndexAny_short (L : Lays.n153 P ρ) (s chars : ByteArray) (w : World) (h2 : 2 ≤ chars.size) (hcs : chars.size ≤ 1000) (h8 : s.size ≤ 8) (hac : ∀ (j : Nat) b, chars.data.toList[j]? = some b → b.toNat < 128) :
    Calls P (ρ.f 153) #[.string s, .string chars] w fun e w' => e = .returned (.int .i64 (Lib.indexAny s.data.toList chars.data.toList)) ∧ Below w.heap.size w w' := by
  have HA : Aside (∀ (j : Nat) b, chars.data.toList[j]? = some b → b.toNat < 128) := hac
  clear hac
  have hemp : chars.toList.isEmpty = false := by
    rw [Lib.toList_data]
    cases h : chars.data.toList with
    | nil => have := Lib.size_eq chars; rw [h, List.length_nil] at this; omega
    | cons _ _ => rfl
  have hn1 : ((chars.size : Int) == 1) = false := beq_eq_false_iff_ne.2 (by omega)
  have h8z : decide ((8 : Int) < (s.size : Int)) = false := decide_eq_false (by omega)
  have t3 := L.t3; have a3 := L.a3; have z3 := L.z3; have v3 := L.v3
  have t4 := L.t4; have a4 := L.a4; have z4 := L.z4; have v4 := L.v4
  have t5 := L.t5; have a5 := L.a5; have z5 := L.z5; have v5 := L.v5
  have t9 := L.t9; have a9 := L.a9; have z9 := L.z9; have v9 := L.v9
  have t21 := L.t21; have a21 := L.a21; have z21 := L.z21; have v21 := L.v21
  have e152 : ∀ args w, (callFunc (ρ.f 152) args).run P w = .ok (.enter (ρ.f 152) args) w := enters_of L.f152 (by kernel_rfl) rfl
  have e226 : ∀ args w, (callFunc (ρ.f 226) args).run P w = .ok (.enter (ρ.f 226) args) w := enters_of L.f226 (by kernel_rfl) rfl
  go_enter L.f153, Body.n153_ntmps ρ
  go_wp2_with (go_at_fn (ρ.f 226); refine (Any.strings_shouldUseASCIISet { L with } _ _).mono ?_; rintro e w' ⟨rfl, hw⟩; rw [hw, h8z])
  go_loopg [9, 10] s.size (fun g _ _ wx => ∃ i : Nat, i + g = s.size ∧ wx.heap[w.heap.size]? = some (.stringIter s i) ∧ Below w.heap.size w wx ∧ Lib.NoAny s.data.toList chars.data.toList i)
  case atStart => exact ⟨0, by omega, World.iter_heap _ _ _, (Below.refl _ _).alloc (Nat.le_refl _) _, Lib.NoAny.zero _ _⟩
  case round =>
    obtain ⟨i, hig, hit, hbel, hno⟩ := hrel
    have HN : Aside (Lib.NoAny s.data.toList chars.data.toList i) := hno
    clear hno
    cases gk with
    | zero =>
      obtain rfl : i = s.size := by omega
      have hnx := fun ty => run_next_end_at (P := P) wr w.heap.size s s.size ty hit (by omega)
      clear hit
      go_wp2
      go_ret
      exact ⟨by rw [Lib.indexAny_none (by rw [← Lib.size_eq]; exact HN.out)]; rfl, hbel⟩
    | succ g =>
      have hi : i < s.size := by omega
      obtain ⟨x, hx⟩ : ∃ x : UInt8, s[i]'hi = x := ⟨_, rfl⟩
      have hxl : s.data.toList[i]? = some x := by rw [← hx]; exact Lib.data_getElem? s i hi
      have Hx : Aside (s.data.toList[i]? = some x) := hxl
      clear hxl
      by_cases hx128 : x.toNat < 128
      · have hnx := fun ty => run_next_ascii_at (P := P) wr w.heap.size s i ty hit hi (by rw [hx]; exact hx128)
        rw [hx] at hnx
        have HW : Aside ((wr.iterAt w.heap.size s (i + 1)).heap[w.heap.size]? = some (.stringIter s (i + 1)) ∧ Below w.heap.size w (wr.iterAt w.heap.size s (i + 1))) := ⟨iterAt_heap _ _ _ _ _ hit, below_iterAt hbel (Nat.le_refl _) _ _⟩
        clear hx hit hbel
        have hcon := Lib.contains_iff_indexByte chars.data.toList x
        have hback : ((x.toNat : Int)).toNat.toUInt8 = x := by simp
        cases hin : chars.data.toList.contains x
        · rw [hin] at hcon
          have hlt : ¬ ((0 : Int) ≤ Lib.indexByte chars.data.toList x) := of_decide_eq_false hcon.symm
          clear hcon
          go_wp2_with (go_at_fn (ρ.f 152); refine (Any.strings_IndexRune_ascii { L with } _ _ _ (by omega) (by omega)).mono ?_; rintro e w' ⟨rfl, hw⟩; rw [hw, hback])
          go_roundg g
          case measure => omega
          case rel => exact ⟨i + 1, by omega, HW.out.1, HW.out.2, HN.out.succ Hx.out hin⟩
        · rw [hin] at hcon
          have hge : (0 : Int) ≤ Lib.indexByte chars.data.toList x := of_decide_eq_true hcon.symm
          clear hcon
          go_wp2_with (go_at_fn (ρ.f 152); refine (Any.strings_IndexRune_ascii { L with } _ _ _ (by omega) (by omega)).mono ?_; rintro e w' ⟨rfl, hw⟩; rw [hw, hback])
          go_ret
          exact ⟨by rw [Lib.indexAny_hit HN.out Hx.out hin]; rfl, HW.out.2⟩
      · have hsp := decode_span s i hi (by rw [hx]; omega)
        have hdh := decode_high s i hi (by rw [hx]; omega)
        have hdl := decode_le s i
        have hnx := fun ty => run_next_any_at (P := P) wr w.heap.size s i ty hit hi
        obtain ⟨r, hr⟩ : ∃ r, r = (Utf8.decode s i).1 := ⟨_, rfl⟩
        obtain ⟨d, hd⟩ : ∃ d, d = (Utf8.decode s i).2 := ⟨_, rfl⟩
        rw [← hd] at hsp
        rw [← hr] at hdh hdl
        simp only [← hr, ← hd] at hnx
        have HW : Aside ((wr.iterAt w.heap.size s (i + d)).heap[w.heap.size]? = some (.stringIter s (i + d)) ∧ Below w.heap.size w (wr.iterAt w.heap.size s (i + d)) ∧ Lib.NoAny s.data.toList chars.data.toList (i + d) ∧ i + d ≤ s.size ∧ 1 ≤ d) := ⟨iterAt_heap _ _ _ _ _ hit, below_iterAt hbel (Nat.le_refl _) _ _, noAny_span HN.out HA.out hsp.2.2, hsp.2.1, hsp.1⟩
        obtain ⟨hdh, _⟩ := hdh
        clear hx hit hbel hsp hr hd
        go_wp2_with (go_at_fn (ρ.f 152); refine (xIndexRune_high { L with } _ _ _ (by omega) (by omega) hcs HA.out).mono ?_; rintro e w' ⟨rfl, hbw⟩)
        have hh := HW.out
        go_roundg (s.size - (i + d))
        case measure => omega
        case rel => exact ⟨i + d, by omega, (hbw.block w.heap.size (Array.getElem?_eq_some_iff.1 hh.1).1).trans hh.1, hh.2.1.trans (hbw.mono hh.2.1.size), hh.2.2.1⟩
theorem xIndexAny (L : Lays.n153 P ρ) (h116 : (P.info? (ρ.t 116)).map (fun i => (i.zero, i.size)) = some (some (.agg (Array.replicate 256 (.bool false))), 256)) (s chars : ByteArray) (w : World) (hs : s.size < 4294967281) (h2 : 2 ≤ chars.size) (hcs : chars.size ≤ 1000) (hac : ∀ (j : Nat) b, chars.data.toList[j]? = some b → b.toNat < 128) :
    Calls P (ρ.f 153) #[.string s, .string chars] w fun e w' => e = .returned (.int .i64 (Lib.indexAny s.data.toList chars.data.toList)) ∧ Below w.heap.size w w' := by
  by_cases h8 : s.size ≤ 8
  · exact xIndexAny_short L s chars w h2 hcs h8 hac
  · refine (Any.strings_IndexAny_long L (zero_of_info h116).1 (zero_of_info h116).2 s chars w h2 (by omega) hs (by omega) hac).mono fun e w' ⟨h1, h2⟩ => ⟨h1, ?_⟩
    rw [h2]
    exact ((Below.refl _ _).alloc (Nat.le_refl _) _).alloc (by simp) _
set_option maxHeartbeats 2000000 in
set_option maxRecDepth 100000 in
theorem xstringslite_Cut_core (L : Lays.n220 P ρ) (s sep : ByteArray) (w : World) (hs : s.size < 4294967281) (hIx : ∀ w, Calls P (ρ.f 219) #[.string s, .string sep] w fun e w' => e = .returned (.int .i64 (Lib.index s.data.toList sep.data.toList)) ∧ w' = w) :
    Calls P (ρ.f 220) #[.string s, .string sep] w fun e w' => e = .returned (.tuple #[.string ⟨(Lib.cut s.data.toList sep.data.toList).1.toArray⟩, .string ⟨(Lib.cut s.data.toList sep.data.toList).2.1.toArray⟩, .bool (Lib.cut s.data.toList sep.data.toList).2.2]) ∧ ∃ n, w' = w.drewN n := by
  rcases Lib.indexB_cases s sep with hix | ⟨i, hix, hroom⟩
  · obtain ⟨e1, e2, e3⟩ := Lib.cutB_miss s sep hix
    rw [e1, e2, e3]
    have t3 := L.t3; have t4 := L.t4; have t9 := L.t9
    have a3 : ∀ w, (isAgg (ρ.t 3)).run P w = .ok false w := run_isAgg_plain L.t3 rfl; have a4 : ∀ w, (isAgg (ρ.t 4)).run P w = .ok false w := run_isAgg_plain L.t4 rfl; have a9 : ∀ w, (isAgg (ρ.t 9)).run P w = .ok false w := run_isAgg_plain L.t9 rfl
    have e219 : ∀ args w, (callFunc (ρ.f 219) args).run P w = .ok (.enter (ρ.f 219) args) w := enters_of L.f219 (by kernel_rfl) rfl
    have mixed := L.mixed; have z3 := L.z3; have v3 := L.v3; have z4 := L.z4; have v4 := L.v4; have z9 := L.z9; have v9 := L.v9
    go_enter L.f220, Body.n220_ntmps ρ
    go_wp2_with (go_at_fn (ρ.f 219); refine (hIx _).mono ?_; rintro e w' ⟨rfl, rfl⟩; rw [show Lib.index s.data.toList sep.data.toList = _ from hix])
    go_ret3
    exact ⟨rfl, 0, rfl⟩
  · obtain ⟨e1, e2, e3⟩ := Lib.cutB_hit s sep i hix
    rw [e1, e2, e3]
    have c1 : (0 : Int) ≤ ↑i := by omega
    have c2 : (↑i : Int) ≤ ↑s.size := by omega
    have c3 : (0 : Int) ≤ ↑i + ↑sep.size := by omega
    have c4 : (↑i + ↑sep.size : Int) ≤ ↑s.size := by omega
    have t3 := L.t3; have t4 := L.t4; have t9 := L.t9
    have a3 : ∀ w, (isAgg (ρ.t 3)).run P w = .ok false w := run_isAgg_plain L.t3 rfl; have a4 : ∀ w, (isAgg (ρ.t 4)).run P w = .ok false w := run_isAgg_plain L.t4 rfl; have a9 : ∀ w, (isAgg (ρ.t 9)).run P w = .ok false w := run_isAgg_plain L.t9 rfl
    have e219 : ∀ args w, (callFunc (ρ.f 219) args).run P w = .ok (.enter (ρ.f 219) args) w := enters_of L.f219 (by kernel_rfl) rfl
    have mixed := L.mixed; have z3 := L.z3; have v3 := L.v3; have z4 := L.z4; have v4 := L.v4; have z9 := L.z9; have v9 := L.v9
    go_enter L.f220, Body.n220_ntmps ρ
    go_wp2_with (go_at_fn (ρ.f 219); refine (hIx _).mono ?_; rintro e w' ⟨rfl, rfl⟩; rw [show Lib.index s.data.toList sep.data.toList = _ from hix])
    go_region_o
    go_wp2
    go_ret3
    exact ⟨rfl, 1, rfl⟩
set_option maxHeartbeats 1000000 in
theorem xstrings_Cut_core (L : Lays.n145 P ρ) (s sep : ByteArray) (w : World) (hs : s.size < 4294967281) (hIx : ∀ w, Calls P (ρ.f 219) #[.string s, .string sep] w fun e w' => e = .returned (.int .i64 (Lib.index s.data.toList sep.data.toList)) ∧ w' = w) :
    Calls P (ρ.f 145) #[.string s, .string sep] w fun e w' => e = .returned (.tuple #[.string ⟨(Lib.cut s.data.toList sep.data.toList).1.toArray⟩, .string ⟨(Lib.cut s.data.toList sep.data.toList).2.1.toArray⟩, .bool (Lib.cut s.data.toList sep.data.toList).2.2]) ∧ ∃ n, w' = w.drewN n := by
  have t4 := L.t4; have t9 := L.t9; have t59 := L.t59
  have a4 : ∀ w, (isAgg (ρ.t 4)).run P w = .ok false w := run_isAgg_plain L.t4 rfl; have a9 : ∀ w, (isAgg (ρ.t 9)).run P w = .ok false w := run_isAgg_plain L.t9 rfl; have a59 : ∀ w, (isAgg (ρ.t 59)).run P w = .ok false w := run_isAgg_plain L.t59 rfl
  have e220 : ∀ args w, (callFunc (ρ.f 220) args).run P w = .ok (.enter (ρ.f 220) args) w := enters_of L.f220 (by kernel_rfl) rfl
  have mixed := L.mixed; have z4 := L.z4; have v4 := L.v4; have z9 := L.z9; have v9 := L.v9; have z59 := L.z59; have v59 := L.v59
  go_enter L.f145, Body.n145_ntmps ρ
  go_wp2_with (go_at_fn (ρ.f 220); refine (xstringslite_Cut_core { L with } _ _ _ hs hIx).mono ?_; rintro e w' ⟨rfl, n, rfl⟩)
  go_ret3
  exact ⟨rfl, n, rfl⟩
theorem xCut_one (L : Lays.n145 P ρ) (s : ByteArray) (c : UInt8) (w : World) (hs : s.size < 4294967281) :
    Calls P (ρ.f 145) #[.string s, .string ⟨#[c]⟩] w fun e w' => e = .returned (.tuple #[.string ⟨(Lib.cut s.data.toList [c]).1.toArray⟩, .string ⟨(Lib.cut s.data.toList [c]).2.1.toArray⟩, .bool (Lib.cut s.data.toList [c]).2.2]) ∧ ∃ n, w' = w.drewN n :=
  xstrings_Cut_core L s ⟨#[c]⟩ w hs (fun w => (Any.stringslite_Index_one { L with } s c w).mono fun e1 w1 ⟨h1, h2⟩ => ⟨by
    rw [h1]
    show _ = Ending.returned (Value.int .i64 (Lib.index s.data.toList [c]))
    rw [Lib.index_one], h2⟩)
set_option maxHeartbeats 1000000 in
theorem xSplit_one (L : LaysM.n146 P ρ) (s : ByteArray) (c : UInt8) (w : World) (hs : s.size < 4294967281) :
    Calls P (ρ.f 146) #[.string s, .string ⟨#[c]⟩] w fun e w' =>
      e = .returned (.slice (some ⟨w.heap.size, 0, none⟩) (Lib.countB s ⟨#[c]⟩ + 1) (Lib.countB s ⟨#[c]⟩ + 1)) ∧ w' = w.alloc (.cells ((Lib.splitB ⟨#[c]⟩ 0 (Lib.countB s ⟨#[c]⟩) s).map Value.string).toArray (ρ.t 9)) := by
  have h1 : 1 ≤ (⟨#[c]⟩ : ByteArray).size := Nat.le_refl _
  have hle := Lib.countB_le ⟨#[c]⟩ h1 s.size s (Nat.le_refl _)
  have hlen := Lib.splitB_all ⟨#[c]⟩ h1 0 _ s rfl
  have cc := Any.strings_genSplit_core { L with } L.i9 s ⟨#[c]⟩ 0 (-1) (Lib.countB s ⟨#[c]⟩ + 1) w hs h1 (Nat.zero_le _)
    (fun x cs hx => (Any.strings_Index_one { L with } x c _).mono fun e1 w1 ⟨h1, h2⟩ => ⟨by
      rw [h1]
      show _ = Ending.returned (Value.int .i64 (Lib.index x.data.toList [c]))
      rw [Lib.index_one], h2⟩)
    ((Any.strings_Count_one { L with } s c w).mono fun e1 w1 ⟨h1, h2⟩ => ⟨by
      rw [h1]
      show _ = Ending.returned (Value.int .i64 ((Lib.count s.data.toList [c] : Nat) : Int))
      rw [Lib.count_one]; rfl, h2⟩)
    (by decide) (by decide) (by rw [if_pos (by decide)]; omega)
  rw [Nat.add_sub_cancel, hlen] at cc
  have e2 : Lib.cellsOf (Lib.splitB ⟨#[c]⟩ 0 (Lib.countB s ⟨#[c]⟩) s) (Lib.countB s ⟨#[c]⟩ + 1) = ((Lib.splitB ⟨#[c]⟩ 0 (Lib.countB s ⟨#[c]⟩) s).map Value.string).toArray := by rw [← hlen]; exact Lib.cellsOf_full _
  rw [e2] at cc
  clear e2 hlen hle
  have t3 := L.t3; have t9 := L.t9; have t31 := L.t31
  have a3 := L.a3; have a9 := L.a9; have a31 := L.a31
  have z3 := L.z3; have v3 := L.v3; have z9 := L.z9; have v9 := L.v9; have z31 := L.z31; have v31 := L.v31
  have e221 : ∀ args w, (callFunc (ρ.f 221) args).run P w = .ok (.enter (ρ.f 221) args) w := enters_of L.f221 (by kernel_rfl) rfl
  go_enter L.f146, Body.n146_ntmps ρ
  go_wp2_with (go_at_fn (ρ.f 221); refine cc.mono ?_; rintro e w' ⟨rfl, hw⟩; rw [hw])
  go_ret
  exact ⟨rfl, rfl⟩
end Go.Proofs.ShX
