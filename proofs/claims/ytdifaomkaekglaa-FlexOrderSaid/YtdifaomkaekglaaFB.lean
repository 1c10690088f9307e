/- Contracts of functions of the given program and of Go's library, proved by walking their text, and plain lemmas (part B); no condition beside those that each theorem states. -/
import Derived.Test.YtdifaomkaekglaaProg
import Derived.Shelf.SlSortCmp.Kit1
import Derived.Test.YtdifaomkaekglaaFA
import Derived.WalkKit
import Derived.BigQuiet
import Derived.Deep.LoopGhost
set_option linter.unusedVariables false
set_option linter.unusedSimpArgs false
namespace Go.Proofs
open Go.RowKit Go.Lib Go.Sort Go.Proofs.Stable


set_option maxHeartbeats 4000000 in
set_option maxRecDepth 100000 in
theorem swapRangeC (blk off cap x y n N : Nat) (f : Value) (d0 d : Array Int) (w0 w : World) (R1 : Row1 encI w0 blk off d0) (hs : d.size = d0.size) (hN : d.size = N) (S : SW encI w0 blk off d w)
    (hxy : x + n ≤ y) (hy : y + n ≤ N) (hsz : N < 4611686018427387904) :
    Calls Try.prog 68 #[.slice (some ⟨blk, off, none⟩) N cap, .int .i64 x, .int .i64 y, .int .i64 n, f] w fun e w' => e = .returned (.tuple #[]) ∧
      ∃ d', Swd x y n d d' ∧ PermIn x (y + n) d d' ∧ SW encI w0 blk off d' w' := by
  have S0 : Aside (SW encI w0 blk off d w) := S
  clear S
  have HN : Aside (d.size = N ∧ d.size = d0.size) := ⟨hN, hs⟩
  clear hN hs
  go_enter Try.func68, Try.ntmps68
  go_wp2
  go_loopg [10] n (fun g1 vi wr => ∃ (i : Nat) (dk : Array Int), vi = .int .i64 i ∧ i ≤ n ∧ n - i ≤ g1 ∧ Aside (dk.size = d.size ∧ SW encI w0 blk off dk wr ∧ Swd x y i d dk ∧ PermIn x (y + n) d dk))
  case atStart => exact ⟨0, d, rfl, by omega, by omega, rfl, S0, Swd.zero x y d, permIn_refl _ _ _⟩
  case round =>
    clear S0
    obtain ⟨i, dk, rfl, hin, hg1, A⟩ := hrel
    by_cases hlt : i < n
    · have hltz : (i : Int) < (n : Int) := by omega
      obtain ⟨iN, hiN⟩ : ∃ q, q = x + i := ⟨_, rfl⟩
      obtain ⟨jN, hjN⟩ : ∃ q, q = y + i := ⟨_, rfl⟩
      have ea : ((x : Int) + (i : Int)).toNat = iN := by omega
      have pa : (0 : Int) ≤ (x : Int) + (i : Int) := by omega
      have ba : (x : Int) + (i : Int) < (N : Int) := by omega
      have ra : IntKind.i64.wrap ((x : Int) + (i : Int)) = (x : Int) + (i : Int) := by rw [IntKind.wrap_i64]; omega
      have ec : ((y : Int) + (i : Int)).toNat = jN := by omega
      have pc : (0 : Int) ≤ (y : Int) + (i : Int) := by omega
      have bc : (y : Int) + (i : Int) < (N : Int) := by omega
      have rc : IntKind.i64.wrap ((y : Int) + (i : Int)) = (y : Int) + (i : Int) := by rw [IntKind.wrap_i64]; omega
      obtain ⟨u, hu⟩ : ∃ q, q = dk[x + i]! := ⟨_, rfl⟩
      obtain ⟨v, hv⟩ : ∃ q, q = dk[y + i]! := ⟨_, rfl⟩
      have SK := A.out.2.1
      have hsk := A.out.1
      have hN := HN.out.1
      have hs := HN.out.2
      have A3 : Aside ((swp dk (x + i) (y + i)).size = d.size ∧ SW encI w0 blk off (swp dk (x + i) (y + i)) ((wr.setCell ⟨blk, off + iN, none⟩ (encI v)).setCell ⟨blk, off + jN, none⟩ (encI u)).drew ∧ Swd x y (i + 1) d (swp dk (x + i) (y + i)) ∧ PermIn x (y + n) d (swp dk (x + i) (y + i))) := by
        rw [hiN, hjN, hu, hv]
        exact ⟨by rw [size_swp]; exact hsk, SK.swapped R1 (x + i) (y + i) (by omega) (by omega), A.out.2.2.1.step (by omega) (by omega), permIn_trans _ _ _ _ _ A.out.2.2.2 (swp_permIn dk x (y + n) (x + i) (y + i) (by omega) (by omega) (by omega) (by omega) (by omega))⟩
      have c1 := SK.c1 R1 (by omega) (x + i) (by omega)
      have c2 := SK.c1 R1 (by omega) (y + i) (by omega)
      have f1 := SK.f1 R1 (by omega) (x + i) (by omega)
      have f2 := SK.f1 R1 (by omega) (y + i) (by omega)
      obtain ⟨u3, c3⟩ := SK.c2 R1 (by omega) (x + i) (y + i) (by omega) (by omega) (encI v)
      rw [← hjN, ← hiN] at c3
      rw [← hu, ← hiN] at c1
      rw [← hv, ← hjN] at c2
      rw [← hiN] at f1
      rw [← hjN] at f2
      clear SK A hu hv hiN hjN hsk hN hs
      go_wp2_with fail
      go_region
      clear c1 c2 c3 f1 f2
      generalize ((wr.setCell ⟨blk, off + iN, none⟩ (encI v)).setCell ⟨blk, off + jN, none⟩ (encI u)).drew = w3 at A3 ⊢
      clear ea ec
      go_wp2
      go_roundg (n - (i + 1))
      case measure => omega
      case rel => exact ⟨i + 1, swp dk (x + i) (y + i), by go_num, by omega, by omega, A3⟩
    · have hltz : ¬ (i : Int) < (n : Int) := by omega
      go_wp2
      go_end0
      have e : i = n := by omega
      subst e
      exact ⟨rfl, dk, A.out.2.2.1, A.out.2.2.2, A.out.2.1⟩
end Go.Proofs

namespace Go.Proofs
open Go.RowKit Go.Lib Go.Sort Go.Proofs.Stable

set_option maxHeartbeats 4000000 in
set_option maxRecDepth 100000 in
theorem rotateC (blk off cap a m b N : Nat) (f : Value) (d0 d : Array Int) (w0 w : World) (R1 : Row1 encI w0 blk off d0) (hs : d.size = d0.size) (hN : d.size = N) (S : SW encI w0 blk off d w)
    (ham : a < m) (hmb : m < b) (hb : b ≤ N) (hsz : N < 4611686018427387904) :
    Calls Try.prog 66 #[.slice (some ⟨blk, off, none⟩) N cap, .int .i64 a, .int .i64 m, .int .i64 b, f] w fun e w' => e = .returned (.tuple #[]) ∧
      ∃ d', Rotd a m b d d' ∧ PermIn a b d d' ∧ SW encI w0 blk off d' w' := by
  have S0 : Aside (SW encI w0 blk off d w) := S
  clear S
  have r1 : IntKind.i64.wrap ((m : Int) - (a : Int)) = ((m - a : Nat) : Int) := by rw [IntKind.wrap_i64]; omega
  have r2 : IntKind.i64.wrap ((b : Int) - (m : Int)) = ((b - m : Nat) : Int) := by rw [IntKind.wrap_i64]; omega
  have HN : Aside (d.size = N ∧ d.size = d0.size) := ⟨hN, hs⟩
  clear hN hs
  obtain ⟨i0, hi0⟩ : ∃ q, q = m - a := ⟨_, rfl⟩
  obtain ⟨j0, hj0⟩ : ∃ q, q = b - m := ⟨_, rfl⟩
  rw [← hi0] at r1
  rw [← hj0] at r2
  have HI : Aside (i0 = m - a ∧ j0 = b - m) := ⟨hi0, hj0⟩
  clear hi0 hj0
  go_enter Try.func66, Try.ntmps66
  go_wp2
  go_loopg [10, 11] (b - a) (fun g1 vi vj wr => ∃ (i j : Nat) (dk : Array Int), vi = .int .i64 i ∧ vj = .int .i64 j ∧ 0 < i ∧ 0 < j ∧ a + i ≤ m ∧ m + j ≤ b ∧ i + j ≤ g1 ∧ Aside (dk.size = d.size ∧ SW encI w0 blk off dk wr ∧ RotI a m b i j (rotT a m b d) dk ∧ PermIn a b d dk))
  case atStart =>
    obtain ⟨q1, q2⟩ := HI.out
    subst q1; subst q2
    exact ⟨m - a, b - m, d, rfl, rfl, by omega, by omega, by omega, by omega, by omega, rfl, S0, RotI.start d (by omega) (by omega), permIn_refl _ _ _⟩
  case round =>
    clear S0 r1 r2 HI
    obtain ⟨i, j, dk, rfl, rfl, hi0, hj0, him, hjb, hg1, A⟩ := hrel
    obtain ⟨p, F⟩ : ∃ q, Aside (dk.size = d0.size ∧ dk.size = N ∧ q + i = m ∧ b ≤ N) := ⟨m - i, by have h1 := A.out.1; have h2 := HN.out; omega, by have h1 := A.out.1; have h2 := HN.out; omega, by omega, hb⟩
    have e1 : IntKind.i64.wrap ((m : Int) - (i : Int)) = (p : Int) := by have := F.out; rw [IntKind.wrap_i64]; omega
    by_cases hij : i = j
    · subst hij
      go_wp2_with (go_at_call 68; refine (swapRangeC blk off cap p m i N f d0 dk w0 wr R1 F.out.1 F.out.2.1 A.out.2.1 (by have := F.out; omega) (by have := F.out; omega) hsz).mono ?_; rintro e w1 ⟨rfl, d', s1, s2, s3⟩)
      go_end0
      refine ⟨rfl, d', ?_, ?_, s3⟩
      · intro k k1 k2
        have h := A.out.2.2.1; have e : p = m - i := by have := F.out; omega
        subst e; exact h.last him hjb s1 k k1 k2
      · exact ptrans A.out.2.2.2 (pmono s2 (by have := F.out; omega) (by omega) (by have := F.out; omega))
    · have hijz : ¬ (i : Int) = (j : Int) := by omega
      by_cases hlt : j < i
      · have hltz : (j : Int) < (i : Int) := by omega
        obtain ⟨i2, hi2⟩ : ∃ q, Aside (q + j = i) := ⟨i - j, show _ = _ by omega⟩
        have e2 : IntKind.i64.wrap ((i : Int) - (j : Int)) = (i2 : Int) := by have := hi2.out; rw [IntKind.wrap_i64]; omega
        go_wp2_with (go_at_call 68; refine (swapRangeC blk off cap p m j N f d0 dk w0 wr R1 F.out.1 F.out.2.1 A.out.2.1 (by have := F.out; omega) (by have := F.out; omega) hsz).mono ?_; rintro e w1 ⟨rfl, d', s1, s2, s3⟩)
        go_roundg (i + j - 1)
        case measure => omega
        case rel =>
          have q1 := hi2.out
          have q2 := F.out
          have e : p = m - i := by omega
          have e' : i2 = i - j := by omega
          subst e; subst e'
          exact ⟨i - j, j, d', rfl, rfl, by omega, by omega, by omega, by omega, by omega, by rw [size_of s2]; exact A.out.1, s3, A.out.2.2.1.left hlt him hjb s1, ptrans A.out.2.2.2 (pmono s2 (by omega) (by omega) (by omega))⟩
      · have hltz : ¬ (j : Int) < (i : Int) := by omega
        obtain ⟨j2, hj2⟩ : ∃ q, Aside (q + i = j) := ⟨j - i, show _ = _ by omega⟩
        obtain ⟨y, hy⟩ : ∃ q, Aside (q + i = m + j) := ⟨m + j - i, show _ = _ by omega⟩
        have e2 : IntKind.i64.wrap ((j : Int) - (i : Int)) = (j2 : Int) := by have := hj2.out; rw [IntKind.wrap_i64]; omega
        have e3 : IntKind.i64.wrap ((m : Int) + (j : Int)) = (m : Int) + (j : Int) := by rw [IntKind.wrap_i64]; omega
        have e4 : IntKind.i64.wrap ((m : Int) + (j : Int) - (i : Int)) = (y : Int) := by have := hy.out; rw [IntKind.wrap_i64]; omega
        go_wp2_with (go_at_call 68; refine (swapRangeC blk off cap p y i N f d0 dk w0 wr R1 F.out.1 F.out.2.1 A.out.2.1 (by have := F.out; have := hy.out; omega) (by have := F.out; have := hy.out; omega) hsz).mono ?_; rintro e w1 ⟨rfl, d', s1, s2, s3⟩)
        go_roundg (i + j - 1)
        case measure => omega
        case rel =>
          have q1 := hj2.out
          have q2 := F.out
          have q3 := hy.out
          have e : p = m - i := by omega
          have e' : j2 = j - i := by omega
          have e'' : y = m + j - i := by omega
          subst e; subst e'; subst e''
          exact ⟨i, j - i, d', rfl, rfl, by omega, by omega, by omega, by omega, by omega, by rw [size_of s2]; exact A.out.1, s3, A.out.2.2.1.right (by omega) him hjb s1, ptrans A.out.2.2.2 (pmono s2 (by omega) (by omega) (by omega))⟩
end Go.Proofs

namespace Go.Proofs
open Go.RowKit Go.Lib Go.Sort Go.Proofs.Stable

/-- All elements are places of a list of N. -/
def Rng (N : Nat) (d : Array Int) : Prop := ∀ i, i < d.size → 0 ≤ d[i]! ∧ d[i]! < (N : Int)
theorem Rng.perm {N a b : Nat} {d d' : Array Int} (h : Rng N d) (p : PermIn a b d d') (hb : b ≤ d.size) : Rng N d' := by
  intro i hi
  have e := size_of p
  by_cases c : a ≤ i ∧ i < b
  · obtain ⟨j, j1, j2, ej⟩ := mem_of p hb i c.1 c.2
    rw [ej]; exact h j (by omega)
  · rw [out_of p i (by omega)]; exact h i (by omega)
/-- What is asked of the comparator: called with two places it hands back cf of them; it may draw, and lay blocks. -/
def CmpIn (g : Nat) (cb : Array Value) (cf : Int → Int → Int) (blk off size N : Nat) (w : World) : Prop :=
  ∀ (m : Nat) (os : Array Obj) (dk : Array Int), dk.size = size → ∀ x y : Int, 0 ≤ x → x < (N : Int) → 0 ≤ y → y < (N : Int) →
    Calls Try.prog g (#[encI x, encI y] ++ cb) (sortWorld encI w blk off m dk os) fun e w' => e = .returned (.int .i64 (cf x y)) ∧ ∃ q os', w' = grow ((sortWorld encI w blk off m dk os).drewN q) os'
theorem cmp_at {g : Nat} {cb : Array Value} {cf : Int → Int → Int} {blk off size N : Nat} {w0 W : World} {dk : Array Int} (h : SW encI w0 blk off dk W) (hC : CmpIn g cb cf blk off size N w0) (hs : dk.size = size) {x y : Int}
    (hx : 0 ≤ x ∧ x < (N : Int)) (hy : 0 ≤ y ∧ y < (N : Int)) (n : Nat) (os : Array Obj) :
    Calls Try.prog g (#[encI x, encI y] ++ cb) (grow (W.drewN n) os) fun e w' => e = .returned (.int .i64 (cf x y)) ∧ ∃ q os', w' = grow ((grow (W.drewN n) os).drewN q) os' := by
  obtain ⟨m, os0, hw⟩ := h.grown n os
  rw [hw]
  exact hC m os0 dk hs x y hx.1 hx.2 hy.1 hy.2

set_option maxHeartbeats 8000000 in
set_option maxRecDepth 100000 in
theorem insertionC (cb : Array Value) (k : Int → Int) (cf : Int → Int → Int) (hcf : ∀ x y, cf x y < 0 ↔ k x < k y) (blk off cap a b N : Nat) (d0 d : Array Int) (w0 w : World) (R1 : Row1 encI w0 blk off d0) (hcmp : CmpIn 47 cb cf blk off d0.size N w0)
    (hs : d.size = d0.size) (hN : d.size = N) (S : SW encI w0 blk off d w) (hr : Rng N d) (hinc : Inc a b d) (hab : a ≤ b) (hb : b ≤ N) (hsz : N < 4611686018427387904) :
    Calls Try.prog 63 #[.slice (some ⟨blk, off, none⟩) N cap, .int .i64 a, .int .i64 b, .func (.func 47) #[] cb] w fun e w' => e = .returned (.tuple #[]) ∧
      ∃ d', PermIn a b d d' ∧ Srt k a b d' ∧ SW encI w0 blk off d' w' := by
  have HC : Aside ((∀ x y, cf x y < 0 ↔ k x < k y) ∧ CmpIn 47 cb cf blk off d0.size N w0 ∧ d.size = d0.size ∧ d.size = N ∧ Rng N d ∧ Inc a b d) := ⟨hcf, hcmp, hs, hN, hr, hinc⟩
  have S0 : Aside (SW encI w0 blk off d w) := S
  clear S hcf hcmp hs hN hr hinc
  have r0 : IntKind.i64.wrap ((a : Int) + 1) = (a : Int) + 1 := by rw [IntKind.wrap_i64]; omega
  have mixed : Try.prog.follows .mixedOrders = true := by kernel_rfl
  go_enter Try.func63, Try.ntmps63
  go_wp2
  go_loopg [8] (b - a) (fun g1 vi wr => ∃ (i : Nat) (dk : Array Int), vi = .int .i64 i ∧ a < i ∧ i ≤ b + 1 ∧ b + 1 - i ≤ g1 + 1 ∧ Aside (SW encI w0 blk off dk wr ∧ PermIn a b d dk ∧ (∀ q, i ≤ q → dk[q]! = d[q]!) ∧ (i ≤ b → PermIn a i d dk) ∧ Srt k a (min i b) dk))
  case atStart => exact ⟨a + 1, d, by go_num, by omega, by omega, by omega, S0, permIn_refl _ _ _, fun _ _ => rfl, fun _ => permIn_refl _ _ _, Srt.one (by omega)⟩
  case round =>
    clear S0
    obtain ⟨i, dk, rfl, hai, hib, hg1, A⟩ := hrel
    by_cases hlt : i < b
    · have hltz : (i : Int) < (b : Int) := by omega
      go_wp2
      go_loopg [9] i (fun g2 vj wr2 => ∃ (j : Nat) (dj : Array Int), vj = .int .i64 j ∧ a ≤ j ∧ j ≤ i ∧ j ≤ g2 ∧ Aside (SW encI w0 blk off dj wr2 ∧ PermIn a b d dj ∧ (∀ q, i + 1 ≤ q → dj[q]! = d[q]!) ∧ PermIn a (i + 1) d dj ∧ InsI k a j i dj))
      case atStart =>
        refine ⟨i, dk, rfl, by omega, Nat.le_refl _, Nat.le_refl _, A.out.1, A.out.2.1, fun q hq => A.out.2.2.1 q (by omega), pmono (A.out.2.2.2.1 (by omega)) (Nat.le_refl _) (by omega) (by have := HC.out.2.2.2.1; omega), InsI.start (A.out.2.2.2.2.sub (Nat.le_refl _) (by omega)) ?_⟩
        have hz : Apart a i (i + 1) d := fun p q h1 h2 h3 h4 => HC.out.2.2.2.2.2 p q h1 (by omega) (by omega)
        exact hz.perm (A.out.2.2.2.1 (by omega)) (by have := HC.out.2.2.2.1; omega) (Or.inl ⟨Nat.le_refl _, Nat.le_refl _⟩)
      case round =>
        clear A
        obtain ⟨j, dj, rfl, haj, hji, hg2, A⟩ := hrel
        have sz : dj.size = d.size := size_of A.out.2.1
        have SZ : Aside (dj.size = d0.size ∧ dj.size = N ∧ Rng N dj) := ⟨sz.trans HC.out.2.2.1, sz.trans HC.out.2.2.2.1, HC.out.2.2.2.2.1.perm A.out.2.1 (by have := HC.out.2.2.2.1; omega)⟩
        clear sz
        have OUT : Aside ((j ≤ a ∨ ¬ k dj[j]! < k dj[j - 1]!) → PermIn a b d dj ∧ (∀ q, i + 1 ≤ q → dj[q]! = d[q]!) ∧ (i + 1 ≤ b → PermIn a (i + 1) d dj) ∧ Srt k a (min (i + 1) b) dj) := fun hh =>
          ⟨A.out.2.1, A.out.2.2.1, fun _ => A.out.2.2.2.1, (A.out.2.2.2.2.stop haj hji hh).sub (Nat.le_refl _) (by omega)⟩
        by_cases hja : a < j
        · have hjaz : (a : Int) < (j : Int) := by omega
          obtain ⟨jp, hjp⟩ : ∃ q, q + 1 = j := ⟨j - 1, by omega⟩
          have zjp : (j : Int) = (jp : Int) + 1 := by omega
          have hjad : decide ((jp : Int) + 1 > (a : Int)) = true := decide_eq_true (by omega)
          have hjaz' : (a : Int) < (jp : Int) + 1 := by omega
          obtain ⟨iN, hiN⟩ : ∃ q, q = j := ⟨_, rfl⟩
          obtain ⟨jN, hjN⟩ : ∃ q, q = j - 1 := ⟨_, rfl⟩
          have ea : ((jp : Int) + 1).toNat = iN := by omega
          have pa : (0 : Int) ≤ (jp : Int) + 1 := by omega
          have ba : (jp : Int) + 1 < (N : Int) := by omega
          have ra : IntKind.i64.wrap ((jp : Int) + 1) = (jp : Int) + 1 := by rw [IntKind.wrap_i64]; omega
          have ec : ((jp : Int)).toNat = jN := by omega
          have pc : (0 : Int) ≤ (jp : Int) := by omega
          have bc : (jp : Int) < (N : Int) := by omega
          have rc : IntKind.i64.wrap ((jp : Int)) = (jp : Int) := by rw [IntKind.wrap_i64]; omega
          obtain ⟨x, hx⟩ : ∃ x, x = dj[j]! := ⟨_, rfl⟩
          obtain ⟨y, hy⟩ : ∃ x, x = dj[j - 1]! := ⟨_, rfl⟩
          have l1 := A.out.1.cl R1 SZ.out.1 j (by have := SZ.out.2.1; omega)
          have l2 := A.out.1.cl R1 SZ.out.1 (j - 1) (by have := SZ.out.2.1; omega)
          rw [← hx, ← hiN] at l1
          rw [← hy, ← hjN] at l2
          have hc := cmp_at A.out.1 HC.out.2.1 SZ.out.1 (x := x) (y := y) (by rw [hx]; exact SZ.out.2.2 j (by have := SZ.out.2.1; omega)) (by rw [hy]; exact SZ.out.2.2 (j - 1) (by have := SZ.out.2.1; omega))
          by_cases hv : cf x y < 0
          · have hd : decide (cf x y < 0) = true := decide_eq_true hv
            have HXY : Aside (x = dj[j]! ∧ y = dj[j - 1]! ∧ iN = j ∧ jN = j - 1 ∧ k dj[j]! < k dj[j - 1]!) := ⟨hx, hy, hiN, hjN, by rw [← hx, ← hy]; exact (HC.out.1 x y).1 hv⟩
            clear hx hy hiN hjN OUT
            go_wp2_with fail
            go_quiet_grown (first | (go_at_call 47; refine Calls.grown_of (hc _ _)))
            have S2 : Aside (SW encI w0 blk off dj (grow (wr.drewN nq) osq)) := A.out.1.grown nq osq
            clear l1 l2 hc
            generalize grow (wr.drewN nq) osq = w2 at S2 ⊢
            clear nq osq
            have c1 := S2.out.c1 R1 SZ.out.1 j (by have := SZ.out.2.1; omega)
            have c2 := S2.out.c1 R1 SZ.out.1 (j - 1) (by have := SZ.out.2.1; omega)
            have f1 := S2.out.f1 R1 SZ.out.1 j (by have := SZ.out.2.1; omega)
            have f2 := S2.out.f1 R1 SZ.out.1 (j - 1) (by have := SZ.out.2.1; omega)
            obtain ⟨u3, c3⟩ := S2.out.c2 R1 SZ.out.1 j (j - 1) (by have := SZ.out.2.1; omega) (by have := SZ.out.2.1; omega) (encI y)
            have S3 : Aside (SW encI w0 blk off (swp dj j (j - 1)) ((w2.setCell ⟨blk, off + iN, none⟩ (encI y)).setCell ⟨blk, off + jN, none⟩ (encI x)).drew) := by
              obtain ⟨q1, q2, q3, q4, _⟩ := HXY.out
              rw [q1, q2, q3, q4]; exact S2.out.swapped R1 j (j - 1) (by have := SZ.out.2.1; omega) (by have := SZ.out.2.1; omega)
            rw [← HXY.out.2.2.2.1, ← HXY.out.2.2.1] at c3
            rw [← HXY.out.1, ← HXY.out.2.2.1] at c1
            rw [← HXY.out.2.1, ← HXY.out.2.2.2.1] at c2
            rw [← HXY.out.2.2.1] at f1
            rw [← HXY.out.2.2.2.1] at f2
            clear S2
            go_wp2_with fail
            go_region
            clear c1 c2 c3 f1 f2
            generalize ((w2.setCell ⟨blk, off + iN, none⟩ (encI y)).setCell ⟨blk, off + jN, none⟩ (encI x)).drew = w3 at S3 ⊢
            clear ea ec
            go_wp2
            go_roundg (j - 1)
            case measure => omega
            case rel =>
              have pj : PermIn a (i + 1) dj (swp dj j (j - 1)) := swp_permIn dj a (i + 1) j (j - 1) (by omega) (by omega) (by omega) (by omega) (by have := SZ.out.2.1; omega)
              refine ⟨j - 1, swp dj j (j - 1), by first | rfl | go_num | (congr 1; omega), by omega, by omega, Nat.le_refl _, S3.out, ptrans A.out.2.1 (pmono pj (Nat.le_refl _) (by omega) (by have := SZ.out.2.1; omega)), fun q hq => ?_, ptrans A.out.2.2.2.1 pj, ?_⟩
              · rw [out_of pj q (Or.inr hq)]; exact A.out.2.2.1 q hq
              · have e : j = (j - 1) + 1 := by omega
                have h1 := A.out.2.2.2.2
                have h2 := HXY.out.2.2.2.2
                rw [e] at h1
                have h3 := h1.step (by rw [← e]; exact h2) (by omega) (by omega) (by have := SZ.out.2.1; omega)
                rw [← e] at h3
                exact h3
          · have hd : decide (cf x y < 0) = false := decide_eq_false hv
            have OU := OUT.out (Or.inr (by rw [← hx, ← hy]; exact fun h => hv ((HC.out.1 x y).2 h)))
            have OU2 : Aside _ := OU
            clear OU hx hy hiN hjN OUT
            go_wp2_with fail
            go_quiet_grown (first | (go_at_call 47; refine Calls.grown_of (hc _ _)))
            have S2 : Aside (SW encI w0 blk off dj (grow (wr.drewN nq) osq)) := A.out.1.grown nq osq
            clear l1 l2 hc
            generalize grow (wr.drewN nq) osq = w2 at S2 ⊢
            clear nq osq
            clear ea ec
            go_wp2
            go_roundg (b - (i + 1))
            case measure => omega
            case rel => exact ⟨i + 1, dj, by go_num, by omega, by omega, by omega, S2.out, OU2.out⟩
        · have hjaz : decide ((j : Int) > (a : Int)) = false := decide_eq_false (by omega)
          have hjaz' : ¬ (a : Int) < (j : Int) := by omega
          go_wp2_with fail
          go_region
          have S2 : Aside (SW encI w0 blk off dj wr.drew) := A.out.1.drew
          generalize wr.drew = w2 at S2 ⊢
          go_wp2
          go_roundg (b - (i + 1))
          case measure => omega
          case rel => exact ⟨i + 1, dj, by go_num, by omega, by omega, by omega, S2.out, OUT.out (Or.inl (by omega))⟩
    · have hltz : ¬ (i : Int) < (b : Int) := by omega
      go_wp2
      go_end0
      exact ⟨rfl, dk, A.out.2.1, A.out.2.2.2.2.sub (Nat.le_refl _) (by omega), A.out.1⟩
end Go.Proofs

namespace Go.Proofs
open Go.RowKit Go.Lib Go.Sort Go.Proofs.Stable

set_option maxHeartbeats 8000000 in
set_option maxRecDepth 100000 in
theorem symLeftC (cb : Array Value) (k : Int → Int) (cf : Int → Int → Int) (hcf : ∀ x y, cf x y < 0 ↔ k x < k y) (blk off cap a m b N : Nat) (d0 d : Array Int) (w0 w : World) (R1 : Row1 encI w0 blk off d0) (hcmp : CmpIn 47 cb cf blk off d0.size N w0)
    (hs : d.size = d0.size) (hN : d.size = N) (S : SW encI w0 blk off d w) (hr : Rng N d) (hl : Srt k a m d) (hm : Srt k m b d) (hap : Apart a m b d) (ham : m = a + 1) (hmb : m < b) (hb : b ≤ N) (hsz : N < 4611686018427387904) :
    Calls Try.prog 64 #[.slice (some ⟨blk, off, none⟩) N cap, .int .i64 a, .int .i64 m, .int .i64 b, .func (.func 47) #[] cb] w fun e w' => e = .returned (.tuple #[]) ∧
      ∃ d', PermIn a b d d' ∧ Srt k a b d' ∧ SW encI w0 blk off d' w' := by
  have HC : Aside ((∀ x y, cf x y < 0 ↔ k x < k y) ∧ CmpIn 47 cb cf blk off d0.size N w0 ∧ d.size = d0.size ∧ d.size = N ∧ Rng N d ∧ Srt k m b d ∧ Apart a m b d ∧ m = a + 1) := ⟨hcf, hcmp, hs, hN, hr, hm, hap, ham⟩
  have S0 : Aside (SW encI w0 blk off d w) := S
  have hq : IntKind.i64.wrap ((m : Int) - (a : Int)) = 1 := by rw [IntKind.wrap_i64]; omega
  clear S hcf hcmp hs hN hr hm hap ham hl
  have mixed : Try.prog.follows .mixedOrders = true := by kernel_rfl
  go_enter Try.func64, Try.ntmps64
  go_wp2
  go_loopg [10, 11] (b - m) (fun g1 vi vj wr => ∃ (i j : Nat), vi = .int .i64 i ∧ vj = .int .i64 j ∧ m ≤ i ∧ i ≤ j ∧ j ≤ b ∧ j - i ≤ g1 ∧ Aside (SW encI w0 blk off d wr ∧ (i = m ∨ k d[i - 1]! < k d[a]!) ∧ (j = b ∨ ¬ k d[j]! < k d[a]!)))
  case atStart => exact ⟨m, b, rfl, rfl, by omega, by omega, by omega, by omega, S0, Or.inl rfl, Or.inl rfl⟩
  case round =>
    clear S0 hq
    obtain ⟨i, j, rfl, rfl, hmi, hij, hjb, hg1, A⟩ := hrel
    by_cases hlt : i < j
    · have hltz : (i : Int) < (j : Int) := by omega
      obtain ⟨h, eh, F⟩ : ∃ h : Nat, ((i : Int) + (j : Int)) / 2 = (h : Int) ∧ Aside (i ≤ h ∧ h < j ∧ h < N ∧ a < N ∧ d.size = d0.size ∧ d.size = N ∧ m = a + 1) :=
        ⟨(i + j) / 2, by omega, by omega, by omega, by omega, by have := HC.out.2.2.2.2.2.2.2; omega, HC.out.2.2.1, HC.out.2.2.2.1, HC.out.2.2.2.2.2.2.2⟩
      obtain ⟨x, hx⟩ : ∃ x, x = d[h]! := ⟨_, rfl⟩
      obtain ⟨y, hy⟩ : ∃ x, x = d[a]! := ⟨_, rfl⟩
      have l1 := A.out.1.cl R1 HC.out.2.2.1 h (by have := F.out; omega)
      have l2 := A.out.1.cl R1 HC.out.2.2.1 a (by have := F.out; omega)
      rw [← hx] at l1
      rw [← hy] at l2
      have hc := cmp_at A.out.1 HC.out.2.1 HC.out.2.2.1 (x := x) (y := y) (by rw [hx]; exact HC.out.2.2.2.2.1 h (by have := F.out; omega)) (by rw [hy]; exact HC.out.2.2.2.2.1 a (by have := F.out; omega))
      have b1 : (h : Int) < (N : Int) := by have := F.out; omega
      have b2 : (a : Int) < (N : Int) := by have := F.out; omega
      have HXY : Aside (x = d[h]! ∧ y = d[a]!) := ⟨hx, hy⟩
      clear hx hy
      by_cases hv : cf x y < 0
      · have hd : decide (cf x y < 0) = true := decide_eq_true hv
        have hw1 : IntKind.i64.wrap ((h : Int) + 1) = (h : Int) + 1 := by rw [IntKind.wrap_i64]; have := F.out; omega
        go_wp2_with fail
        go_quiet_grown (first | (go_at_call 47; refine Calls.grown_of (hc _ _)))
        have S2 : Aside (SW encI w0 blk off d (grow (wr.drewN nq) osq)) := A.out.1.grown nq osq
        clear l1 l2 hc
        generalize grow (wr.drewN nq) osq = w2 at S2 ⊢
        clear nq osq
        go_wp2
        go_roundg (j - (h + 1))
        case measure => have := F.out; omega
        case rel =>
          have f := F.out
          exact ⟨h + 1, j, by go_num, rfl, by omega, by omega, by omega, by omega, S2.out, Or.inr (by have := (HC.out.1 x y).1 hv; rw [HXY.out.1, HXY.out.2] at this; exact this), A.out.2.2⟩
      · have hd : decide (cf x y < 0) = false := decide_eq_false hv
        go_wp2_with fail
        go_quiet_grown (first | (go_at_call 47; refine Calls.grown_of (hc _ _)))
        have S2 : Aside (SW encI w0 blk off d (grow (wr.drewN nq) osq)) := A.out.1.grown nq osq
        clear l1 l2 hc
        generalize grow (wr.drewN nq) osq = w2 at S2 ⊢
        clear nq osq
        go_wp2
        go_roundg (h - i)
        case measure => have := F.out; omega
        case rel =>
          have f := F.out
          refine ⟨i, h, rfl, rfl, by omega, by omega, by omega, by omega, S2.out, A.out.2.1, Or.inr ?_⟩
          have q := HC.out.1 x y
          have q2 := hv
          rw [HXY.out.1, HXY.out.2] at q q2
          omega
    · have hltz : ¬ (i : Int) < (j : Int) := by omega
      have e : i = j := by omega
      subst e
      clear hij hg1
      have hi1 : IntKind.i64.wrap ((i : Int) - 1) = (i : Int) - 1 := by rw [IntKind.wrap_i64]; omega
      go_wp2
      go_loopg [13] (i - 1 - a) (fun g1 vq wr => ∃ (q : Nat) (dk : Array Int), vq = .int .i64 q ∧ a ≤ q ∧ q + 1 ≤ i ∧ i - 1 - q ≤ g1 ∧ Aside (SW encI w0 blk off dk wr ∧ PermIn a i d dk ∧ (∀ p, a ≤ p → p < q → dk[p]! = d[p + 1]!) ∧ dk[q]! = d[a]! ∧ (∀ p, q < p → dk[p]! = d[p]!)))
      case atStart => exact ⟨a, d, rfl, by omega, by have := HC.out.2.2.2.2.2.2.2; omega, by omega, A.out.1, permIn_refl _ _ _, fun p h1 h2 => by omega, rfl, fun _ _ => rfl⟩
      case round =>
        obtain ⟨q, dk, rfl, haq, hqi, hg1, B⟩ := hrel
        have hsk : dk.size = d.size := size_of B.out.2.1
        have SZ : Aside (dk.size = d0.size ∧ dk.size = N ∧ m = a + 1) := ⟨hsk.trans HC.out.2.2.1, hsk.trans HC.out.2.2.2.1, HC.out.2.2.2.2.2.2.2⟩
        clear hsk
        by_cases hlt : q + 1 < i
        · have hltz2 : (q : Int) < (i : Int) - 1 := by omega
          obtain ⟨jN, hjN⟩ : ∃ z, z = q + 1 := ⟨_, rfl⟩
          have ec : ((q : Int) + 1).toNat = jN := by omega
          have pc : (0 : Int) ≤ (q : Int) + 1 := by omega
          have bc : (q : Int) + 1 < (N : Int) := by omega
          have ba : (q : Int) < (N : Int) := by omega
          have rc : IntKind.i64.wrap ((q : Int) + 1) = (q : Int) + 1 := by rw [IntKind.wrap_i64]; omega
          obtain ⟨x, hx⟩ : ∃ x, x = dk[q]! := ⟨_, rfl⟩
          obtain ⟨y, hy⟩ : ∃ x, x = dk[q + 1]! := ⟨_, rfl⟩
          have c1 := B.out.1.c1 R1 SZ.out.1 q (by have := SZ.out.2.1; omega)
          have c2 := B.out.1.c1 R1 SZ.out.1 (q + 1) (by have := SZ.out.2.1; omega)
          have f1 := B.out.1.f1 R1 SZ.out.1 q (by have := SZ.out.2.1; omega)
          have f2 := B.out.1.f1 R1 SZ.out.1 (q + 1) (by have := SZ.out.2.1; omega)
          obtain ⟨u3, c3⟩ := B.out.1.c2 R1 SZ.out.1 q (q + 1) (by have := SZ.out.2.1; omega) (by have := SZ.out.2.1; omega) (encI y)
          have S3 : Aside (SW encI w0 blk off (swp dk q (q + 1)) ((wr.setCell ⟨blk, off + q, none⟩ (encI y)).setCell ⟨blk, off + jN, none⟩ (encI x)).drew) := by
            rw [hx, hy, hjN]; exact B.out.1.swapped R1 q (q + 1) (by have := SZ.out.2.1; omega) (by have := SZ.out.2.1; omega)
          rw [← hjN] at c3 f2
          rw [← hx] at c1
          rw [← hy, ← hjN] at c2
          clear hx hy hjN
          go_wp2_with fail
          go_region
          clear c1 c2 c3 f1 f2
          generalize ((wr.setCell ⟨blk, off + q, none⟩ (encI y)).setCell ⟨blk, off + jN, none⟩ (encI x)).drew = w3 at S3 ⊢
          clear ec
          go_wp2
          go_roundg (i - 1 - (q + 1))
          case measure => omega
          case rel =>
            have sz := SZ.out
            have g := swp_get dk (show q < dk.size by omega) (show q + 1 < dk.size by omega)
            have hB := B.out
            refine ⟨q + 1, swp dk q (q + 1), by go_num, by omega, by omega, by omega, S3.out, ptrans hB.2.1 (swp_permIn dk a i q (q + 1) (by omega) (by omega) (by omega) (by omega) (by omega)), ?_, ?_, ?_⟩
            · intro p h1 h2
              rw [g, if_neg (by omega)]
              by_cases c : p = q
              · rw [if_pos c, c]; exact hB.2.2.2.2 _ (by omega)
              · rw [if_neg c]; exact hB.2.2.1 p h1 (by omega)
            · rw [g, if_pos rfl]; exact hB.2.2.2.1
            · intro p h1
              rw [g, if_neg (by omega), if_neg (by omega)]; exact hB.2.2.2.2 p (by omega)
        · have hltz2 : ¬ (q : Int) < (i : Int) - 1 := by omega
          go_wp2
          refine bodyPost_ret (results_none rfl _ _ _) rfl ?_
          obtain ⟨hcf, _, _, hN, _, hm, hap, ham⟩ := HC.out
          have hB := B.out
          have e : q = i - 1 := by omega
          subst e
          refine ⟨rfl, dk, pmono hB.2.1 (Nat.le_refl _) hjb (by omega), merge_left ham hmi hjb hm hap A.out.2.1 ?_ ?_ (fun p hp => ?_), hB.1⟩
          · have := A.out.2.2; omega
          · intro p h1 h2
            by_cases c : p < a + (i - m)
            · rw [if_pos c, hB.2.2.1 p h1 (by omega)]; congr 1; omega
            · rw [if_neg c]
              have e1 : p = i - 1 := by omega
              have e2 : p - (i - m) = a := by omega
              rw [e2, e1]; exact hB.2.2.2.1
          · exact out_of hB.2.1 p hp
end Go.Proofs

namespace Go.Proofs
open Go.RowKit Go.Lib Go.Sort Go.Proofs.Stable

set_option maxHeartbeats 8000000 in
set_option maxRecDepth 100000 in
theorem symRightC (cb : Array Value) (k : Int → Int) (cf : Int → Int → Int) (hcf : ∀ x y, cf x y < 0 ↔ k x < k y) (blk off cap a m b N : Nat) (d0 d : Array Int) (w0 w : World) (R1 : Row1 encI w0 blk off d0) (hcmp : CmpIn 47 cb cf blk off d0.size N w0)
    (hs : d.size = d0.size) (hN : d.size = N) (S : SW encI w0 blk off d w) (hr : Rng N d) (hl : Srt k a m d) (hm : Srt k m b d) (hap : Apart a m b d) (ham : a + 1 < m) (hbm : b = m + 1) (hb : b ≤ N) (hsz : N < 4611686018427387904) :
    Calls Try.prog 64 #[.slice (some ⟨blk, off, none⟩) N cap, .int .i64 a, .int .i64 m, .int .i64 b, .func (.func 47) #[] cb] w fun e w' => e = .returned (.tuple #[]) ∧
      ∃ d', PermIn a b d d' ∧ Srt k a b d' ∧ SW encI w0 blk off d' w' := by
  have HC : Aside ((∀ x y, cf x y < 0 ↔ k x < k y) ∧ CmpIn 47 cb cf blk off d0.size N w0 ∧ d.size = d0.size ∧ d.size = N ∧ Rng N d ∧ Srt k a m d ∧ Apart a m b d ∧ b = m + 1) := ⟨hcf, hcmp, hs, hN, hr, hl, hap, hbm⟩
  have S0 : Aside (SW encI w0 blk off d w) := S
  obtain ⟨z, hz, hz1⟩ : ∃ z : Nat, IntKind.i64.wrap ((m : Int) - (a : Int)) = (z : Int) ∧ ((z : Int) == 1) = false := ⟨m - a, by rw [IntKind.wrap_i64]; omega, beq_eq_false_iff_ne.2 (by omega)⟩
  have hq : IntKind.i64.wrap ((b : Int) - (m : Int)) = 1 := by rw [IntKind.wrap_i64]; omega
  clear S hcf hcmp hs hN hr hm hap hbm hl
  have mixed : Try.prog.follows .mixedOrders = true := by kernel_rfl
  go_enter Try.func64, Try.ntmps64
  go_wp2
  go_loopg [14, 15] (m - a) (fun g1 vi vj wr => ∃ (i j : Nat), vi = .int .i64 i ∧ vj = .int .i64 j ∧ a ≤ i ∧ i ≤ j ∧ j ≤ m ∧ j - i ≤ g1 ∧ Aside (SW encI w0 blk off d wr ∧ (i = a ∨ ¬ k d[m]! < k d[i - 1]!) ∧ (j = m ∨ k d[m]! < k d[j]!)))
  case atStart => exact ⟨a, m, rfl, rfl, by omega, by omega, by omega, by omega, S0, Or.inl rfl, Or.inl rfl⟩
  case round =>
    clear S0 hq hz hz1
    obtain ⟨i, j, rfl, rfl, hmi, hij, hjb, hg1, A⟩ := hrel
    by_cases hlt : i < j
    · have hltz : (i : Int) < (j : Int) := by omega
      obtain ⟨h, eh, F⟩ : ∃ h : Nat, ((i : Int) + (j : Int)) / 2 = (h : Int) ∧ Aside (i ≤ h ∧ h < j ∧ h < N ∧ m < N ∧ d.size = d0.size ∧ d.size = N ∧ b = m + 1) :=
        ⟨(i + j) / 2, by omega, by omega, by omega, by have := HC.out.2.2.2.2.2.2.2; omega, by have := HC.out.2.2.2.2.2.2.2; omega, HC.out.2.2.1, HC.out.2.2.2.1, HC.out.2.2.2.2.2.2.2⟩
      obtain ⟨x, hx⟩ : ∃ x, x = d[m]! := ⟨_, rfl⟩
      obtain ⟨y, hy⟩ : ∃ x, x = d[h]! := ⟨_, rfl⟩
      have l1 := A.out.1.cl R1 HC.out.2.2.1 m (by have := F.out; omega)
      have l2 := A.out.1.cl R1 HC.out.2.2.1 h (by have := F.out; omega)
      rw [← hx] at l1
      rw [← hy] at l2
      have hc := cmp_at A.out.1 HC.out.2.1 HC.out.2.2.1 (x := x) (y := y) (by rw [hx]; exact HC.out.2.2.2.2.1 m (by have := F.out; omega)) (by rw [hy]; exact HC.out.2.2.2.2.1 h (by have := F.out; omega))
      have b1 : (h : Int) < (N : Int) := by have := F.out; omega
      have b2 : (m : Int) < (N : Int) := by have := F.out; omega
      have HXY : Aside (x = d[m]! ∧ y = d[h]!) := ⟨hx, hy⟩
      clear hx hy
      by_cases hv : cf x y < 0
      · have hd : decide (cf x y < 0) = true := decide_eq_true hv
        go_wp2_with fail
        go_quiet_grown (first | (go_at_call 47; refine Calls.grown_of (hc _ _)))
        have S2 : Aside (SW encI w0 blk off d (grow (wr.drewN nq) osq)) := A.out.1.grown nq osq
        clear l1 l2 hc
        generalize grow (wr.drewN nq) osq = w2 at S2 ⊢
        clear nq osq
        go_wp2
        go_roundg (h - i)
        case measure => have := F.out; omega
        case rel =>
          have f := F.out
          refine ⟨i, h, rfl, rfl, by omega, by omega, by omega, by omega, S2.out, A.out.2.1, Or.inr ?_⟩
          have q := (HC.out.1 x y).1 hv
          rw [HXY.out.1, HXY.out.2] at q
          exact q
      · have hd : decide (cf x y < 0) = false := decide_eq_false hv
        have hw1 : IntKind.i64.wrap ((h : Int) + 1) = (h : Int) + 1 := by rw [IntKind.wrap_i64]; have := F.out; omega
        go_wp2_with fail
        go_quiet_grown (first | (go_at_call 47; refine Calls.grown_of (hc _ _)))
        have S2 : Aside (SW encI w0 blk off d (grow (wr.drewN nq) osq)) := A.out.1.grown nq osq
        clear l1 l2 hc
        generalize grow (wr.drewN nq) osq = w2 at S2 ⊢
        clear nq osq
        go_wp2
        go_roundg (j - (h + 1))
        case measure => have := F.out; omega
        case rel =>
          have f := F.out
          refine ⟨h + 1, j, by go_num, rfl, by omega, by omega, by omega, by omega, S2.out, Or.inr ?_, A.out.2.2⟩
          have q := HC.out.1 x y
          have q2 := hv
          rw [HXY.out.1, HXY.out.2] at q q2
          rw [show h + 1 - 1 = h by omega]
          omega
    · have hltz : ¬ (i : Int) < (j : Int) := by omega
      have e : i = j := by omega
      subst e
      clear hij hg1
      go_wp2
      go_loopg [17] (m - i) (fun g1 vq wr => ∃ (q : Nat) (dk : Array Int), vq = .int .i64 q ∧ i ≤ q ∧ q ≤ m ∧ q - i ≤ g1 ∧ Aside (SW encI w0 blk off dk wr ∧ PermIn i b d dk ∧ (∀ p, q < p → p ≤ m → dk[p]! = d[p - 1]!) ∧ dk[q]! = d[m]! ∧ (∀ p, p < q → dk[p]! = d[p]!)))
      case atStart => exact ⟨m, d, rfl, by omega, by omega, by omega, A.out.1, permIn_refl _ _ _, fun p h1 h2 => by omega, rfl, fun _ _ => rfl⟩
      case round =>
        obtain ⟨q, dk, rfl, haq, hqi, hg1, B⟩ := hrel
        have hsk : dk.size = d.size := size_of B.out.2.1
        have SZ : Aside (dk.size = d0.size ∧ dk.size = N ∧ b = m + 1) := ⟨hsk.trans HC.out.2.2.1, hsk.trans HC.out.2.2.2.1, HC.out.2.2.2.2.2.2.2⟩
        clear hsk
        by_cases hlt : i < q
        · obtain ⟨r, hr⟩ : ∃ r, q = r + 1 := ⟨q - 1, by omega⟩
          subst hr
          have hltz2 : (i : Int) < (r : Int) + 1 := by omega
          obtain ⟨jN, hjN⟩ : ∃ z, z = r + 1 := ⟨_, rfl⟩
          have ec : ((r : Int) + 1).toNat = jN := by omega
          have pc : (0 : Int) ≤ (r : Int) + 1 := by omega
          have bc : (r : Int) + 1 < (N : Int) := by have := SZ.out; omega
          have ba : (r : Int) < (N : Int) := by omega
          have rc : IntKind.i64.wrap ((r : Int)) = (r : Int) := by rw [IntKind.wrap_i64]; omega
          obtain ⟨x, hx⟩ : ∃ x, x = dk[r + 1]! := ⟨_, rfl⟩
          obtain ⟨y, hy⟩ : ∃ x, x = dk[r]! := ⟨_, rfl⟩
          have c1 := B.out.1.c1 R1 SZ.out.1 (r + 1) (by have := SZ.out; omega)
          have c2 := B.out.1.c1 R1 SZ.out.1 r (by have := SZ.out; omega)
          have f1 := B.out.1.f1 R1 SZ.out.1 (r + 1) (by have := SZ.out; omega)
          have f2 := B.out.1.f1 R1 SZ.out.1 r (by have := SZ.out; omega)
          obtain ⟨u3, c3⟩ := B.out.1.c2 R1 SZ.out.1 (r + 1) r (by have := SZ.out; omega) (by have := SZ.out; omega) (encI y)
          have S3 : Aside (SW encI w0 blk off (swp dk (r + 1) r) ((wr.setCell ⟨blk, off + jN, none⟩ (encI y)).setCell ⟨blk, off + r, none⟩ (encI x)).drew) := by
            rw [hx, hy, hjN]; exact B.out.1.swapped R1 (r + 1) r (by have := SZ.out; omega) (by have := SZ.out; omega)
          rw [← hjN] at c3 f1
          rw [← hx, ← hjN] at c1
          rw [← hy] at c2
          clear hx hy hjN
          go_wp2_with fail
          go_region
          clear c1 c2 c3 f1 f2
          generalize ((wr.setCell ⟨blk, off + jN, none⟩ (encI y)).setCell ⟨blk, off + r, none⟩ (encI x)).drew = w3 at S3 ⊢
          clear ec
          go_wp2
          go_roundg (r - i)
          case measure => omega
          case rel =>
            have sz := SZ.out
            have g := swp_get dk (show r + 1 < dk.size by omega) (show r < dk.size by omega)
            have hB := B.out
            refine ⟨r, swp dk (r + 1) r, by first | rfl | go_num | (congr 1; omega), by omega, by omega, by omega, S3.out, ptrans hB.2.1 (swp_permIn dk i b (r + 1) r (by omega) (by omega) (by omega) (by omega) (by omega)), ?_, ?_, ?_⟩
            · intro p h1 h2
              rw [g, if_neg (by omega)]
              by_cases c : p = r + 1
              · rw [if_pos c, c, hB.2.2.2.2 r (by omega)]; rfl
              · rw [if_neg c]; exact hB.2.2.1 p (by omega) h2
            · rw [g, if_pos rfl]; exact hB.2.2.2.1
            · intro p h1
              rw [g, if_neg (by omega), if_neg (by omega)]; exact hB.2.2.2.2 p (by omega)
        · have hltz2 : ¬ (i : Int) < (q : Int) := by omega
          go_wp2
          refine bodyPost_ret (results_none rfl _ _ _) rfl ?_
          obtain ⟨hcf, _, _, hN, _, hl, hap, hbm⟩ := HC.out
          have hB := B.out
          have e : q = i := by omega
          subst e
          refine ⟨rfl, dk, pmono hB.2.1 hmi (Nat.le_refl _) (by omega), merge_right hbm hmi hjb hl hap ?_ A.out.2.2 (fun p h1 h2 => ?_) (fun p hp => out_of hB.2.1 p hp), hB.1⟩
          · have := A.out.2.1; omega
          · by_cases c : p < q + (b - m)
            · rw [if_pos c]
              have e1 : p = q := by omega
              have e2 : p + (m - q) = m := by omega
              rw [e2, e1]; exact hB.2.2.2.1
            · rw [if_neg c, hB.2.2.1 p (by omega) (by omega)]; congr 1; omega
end Go.Proofs
