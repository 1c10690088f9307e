/- Contracts of functions of the given program and of Go's library, proved by walking their text, and plain lemmas (part D); no condition beside those that each theorem states. -/
import Derived.Test.YtdifaomkaekglaaFC
import Derived.Test.YtdifaomkaekglaaFA
import Derived.Deep.QuietTactic
import Derived.BigQuiet
import Derived.Shelf.SlSortFunc.HeapSort
import Derived.Test.YtdifaomkaekglaaWWords
import Derived.Lib.Hide
import Derived.Laws.Rows
set_option linter.unusedVariables false
set_option linter.unusedSimpArgs false
namespace Go.Proofs
open Go.RowKit Go.Lib Go.Sort Go.Proofs.Stable

set_option maxHeartbeats 8000000 in
set_option maxRecDepth 100000 in
theorem stableC (cb : Array Value) (k : Int → Int) (cf : Int → Int → Int) (hcf : ∀ x y, cf x y < 0 ↔ k x < k y) (blk off cap N : Nat) (d0 d : Array Int) (w0 w : World) (R1 : Row1 encI w0 blk off d0) (hcmp : CmpIn 47 cb cf blk off d0.size N w0)
    (hs : d.size = d0.size) (hN : d.size = N) (S : SW encI w0 blk off d w) (hr : Rng N d) (hinc : Inc 0 N d) (hsz : N < 1152921504606846976) :
    Calls Try.prog 60 #[.slice (some ⟨blk, off, none⟩) N cap, .int .i64 N, .func (.func 47) #[] cb] w fun e w' => e = .returned (.tuple #[]) ∧
      ∃ d', PermIn 0 N d d' ∧ Srt k 0 N d' ∧ SW encI w0 blk off d' w' := by
  have HC : Aside ((∀ x y, cf x y < 0 ↔ k x < k y) ∧ CmpIn 47 cb cf blk off d0.size N w0 ∧ d.size = d0.size ∧ d.size = N ∧ Rng N d ∧ Inc 0 N d ∧ Row1 encI w0 blk off d0) := ⟨hcf, hcmp, hs, hN, hr, hinc, R1⟩
  have S0 : Aside (SW encI w0 blk off d w) := S
  clear S hcf hcmp hs hN hr hinc R1
  go_enter Try.func60, Try.ntmps60
  go_wp2
  go_loopg [7, 8] N (fun g1 va vb wr => ∃ (a b : Nat) (dk : Array Int), va = .int .i64 a ∧ vb = .int .i64 b ∧ a ≤ N ∧ N - a ≤ g1 ∧ b ≤ N + 20 ∧ a < b ∧ Aside (b = a + 20 ∧ SW encI w0 blk off dk wr ∧ PermIn 0 N d dk ∧ First k 20 N a dk))
  case atStart => exact ⟨0, 20, d, rfl, rfl, by omega, by omega, by omega, by omega, rfl, S0, permIn_refl _ _ _, First.start HC.out.2.2.2.2.2.1⟩
  case round =>
    as_aux_lemma =>
    clear S0
    obtain ⟨a, b, dk, rfl, rfl, haN, hg1, hbN, hab, A⟩ := hrel
    have SZ : Aside (dk.size = d0.size ∧ dk.size = N ∧ Rng N dk) := by
      have sz := size_of A.out.2.2.1
      exact ⟨sz.trans HC.out.2.2.1, sz.trans HC.out.2.2.2.1, HC.out.2.2.2.2.1.perm A.out.2.2.1 (by have := HC.out.2.2.2.1; omega)⟩
    by_cases hlt : b ≤ N
    · have hltz : (b : Int) ≤ (N : Int) := by omega
      have r0 : IntKind.i64.wrap ((b : Int) + 20) = (b : Int) + 20 := by rw [IntKind.wrap_i64]; omega
      have HI := Lib.hid (A.out.2.2.2.inc hlt)
      have hN2 : N < 4611686018427387904 := by omega
      go_wp2_with (go_at_call 63; refine (insertionC cb k cf HC.out.1 blk off cap a b N d0 dk w0 _ HC.out.2.2.2.2.2.2 HC.out.2.1 SZ.out.1 SZ.out.2.1 A.out.2.1 SZ.out.2.2 HI.out (Nat.le_of_lt hab) hlt hN2).mono ?_; rintro e w2 ⟨rfl, d1, p1, p2, p3⟩)
      go_roundg (N - b)
      case measure => omega
      case rel =>
        have sz := SZ.out.2.1
        obtain ⟨eb, a1, a2, a3⟩ := A.out
        subst eb
        exact ⟨a + 20, a + 20 + 20, d1, rfl, by go_num, hlt, by omega, by omega, by omega, rfl, p3, ptrans a2 (pmono p1 (by omega) (by omega) (by omega)), a3.step hlt (by omega) p1 p2⟩
    · have hltz : ¬ (b : Int) ≤ (N : Int) := by omega
      have HI := Lib.hid (A.out.2.2.2.inc (Nat.le_refl N))
      have hN2 : N < 4611686018427387904 := by omega
      have hNN : N ≤ N := Nat.le_refl N
      have LST : Aside (∀ d1, PermIn a N dk d1 → Srt k a N d1 → PermIn 0 N d d1 ∧ Full k 20 N d1) := fun d1 p1 p2 => by
        have sz := SZ.out.2.1
        obtain ⟨eb, a1, a2, a3⟩ := A.out
        exact ⟨ptrans a2 (pmono p1 (by omega) (by omega) (by omega)), a3.last (by omega) haN (by omega) p1 p2⟩
      go_wp2_with (go_at_call 63; refine (insertionC cb k cf HC.out.1 blk off cap a N N d0 dk w0 _ HC.out.2.2.2.2.2.2 HC.out.2.1 SZ.out.1 SZ.out.2.1 A.out.2.1 SZ.out.2.2 HI.out haN hNN hN2).mono ?_; rintro e w2 ⟨rfl, d1, p1, p2, p3⟩)
      have A2 : Aside (SW encI w0 blk off d1 w2 ∧ PermIn 0 N d d1 ∧ Full k 20 N d1) := ⟨p3, LST.out d1 p1 p2⟩
      clear p1 p2 p3 LST HI A SZ
      go_loopg [6] N (fun g2 vK wr2 => ∃ (K : Nat) (dk : Array Int), vK = .int .i64 K ∧ 20 ≤ K ∧ K ≤ 2 * N + 20 ∧ 2 * N - K ≤ 2 * g2 ∧ Aside (SW encI w0 blk off dk wr2 ∧ PermIn 0 N d dk ∧ Full k K N dk))
      case atStart => exact ⟨20, d1, rfl, by omega, by omega, by omega, A2.out⟩
      case round =>
        as_aux_lemma =>
        clear A2
        obtain ⟨K, dk, rfl, hK1, hK2, hg2, A⟩ := hrel
        by_cases hlt2 : K < N
        · have hltz2 : (K : Int) < (N : Int) := by omega
          have r0 : IntKind.i64.wrap (2 * (K : Int)) = 2 * (K : Int) := by rw [IntKind.wrap_i64]; omega
          have r1 : IntKind.i64.wrap ((K : Int) * 2) = (K : Int) * 2 := by rw [IntKind.wrap_i64]; omega
          go_wp2
          go_loopg [7, 8] N (fun g3 va vb wr3 => ∃ (a b : Nat) (dj : Array Int), va = .int .i64 a ∧ vb = .int .i64 b ∧ a ≤ N ∧ N - a ≤ g3 ∧ b ≤ N + 2 * K ∧ a + K < b ∧ Aside (b = a + 2 * K ∧ SW encI w0 blk off dj wr3 ∧ PermIn 0 N d dj ∧ Pass k K N a dj))
          case atStart => exact ⟨0, 2 * K, dk, rfl, by go_num, by omega, by omega, by omega, by omega, by omega, A.out.1, A.out.2.1, Pass.start A.out.2.2⟩
          case round =>
            as_aux_lemma =>
            clear A
            obtain ⟨a, b, dj, rfl, rfl, haN, hg3, hbN, hab, A⟩ := hrel
            have SZ : Aside (dj.size = d0.size ∧ dj.size = N ∧ Rng N dj) := by
              have sz := size_of A.out.2.2.1
              exact ⟨sz.trans HC.out.2.2.1, sz.trans HC.out.2.2.2.1, HC.out.2.2.2.2.1.perm A.out.2.2.1 (by have := HC.out.2.2.2.1; omega)⟩
            have r2 : IntKind.i64.wrap ((a : Int) + (K : Int)) = ((a + K : Nat) : Int) := by rw [IntKind.wrap_i64]; omega
            by_cases hlt3 : b ≤ N
            · have hltz3 : (b : Int) ≤ (N : Int) := by omega
              have r3 : IntKind.i64.wrap ((b : Int) + 2 * (K : Int)) = (b : Int) + 2 * (K : Int) := by rw [IntKind.wrap_i64]; omega
              have PRE : SymPre cb k cf blk off a (a + K) b N d0 dj w0 wr := by
                have q := A.out.2.2.2.ready hlt3 hab (by have := A.out.1; omega)
                exact { hcf := HC.out.1, R1 := HC.out.2.2.2.2.2.2, hcmp := HC.out.2.1, hs := SZ.out.1, hN := SZ.out.2.1, S := A.out.2.1, hr := SZ.out.2.2, hl := q.1, hm := q.2.1, hap := q.2.2, ham := by omega, hmb := hab, hb := hlt3, hsz := by omega }
              have HH := Lib.hid (symMergeC cb k cf blk off cap N d0 w0 (b - a) a (a + K) b dj wr (Nat.le_refl _) PRE)
              clear PRE
              go_wp2_with (go_at_call 64; refine HH.out.mono ?_; rintro e w3 ⟨rfl, d3, p1, p2, p3⟩)
              go_roundg (N - b)
              case measure => omega
              case rel =>
                have sz := SZ.out.2.1
                obtain ⟨eb, a1, a2, a3⟩ := A.out
                subst eb
                exact ⟨a + 2 * K, a + 2 * K + 2 * K, d3, rfl, by go_num, hlt3, by omega, by omega, by omega, rfl, p3, ptrans a2 (pmono p1 (by omega) (by omega) (by omega)), a3.step (by omega) hlt3 (by omega) p1 p2⟩
            · have hltz3 : ¬ (b : Int) ≤ (N : Int) := by omega
              have LST : Aside (∀ d3, PermIn a N dj d3 → Srt k a N d3 → PermIn 0 N d d3 ∧ Full k (2 * K) N d3) := fun d3 p1 p2 => by
                have sz := SZ.out.2.1
                obtain ⟨eb, a1, a2, a3⟩ := A.out
                exact ⟨ptrans a2 (pmono p1 (by omega) (by omega) (by omega)), a3.tail haN (by omega) (by omega) p1 p2⟩
              by_cases hm : a + K < N
              · have hmz : ((a + K : Nat) : Int) < (N : Int) := by omega
                have PRE : SymPre cb k cf blk off a (a + K) N N d0 dj w0 wr := by
                  have q := A.out.2.2.2.ready (Nat.le_refl N) hm (by have := A.out.1; omega)
                  exact { hcf := HC.out.1, R1 := HC.out.2.2.2.2.2.2, hcmp := HC.out.2.1, hs := SZ.out.1, hN := SZ.out.2.1, S := A.out.2.1, hr := SZ.out.2.2, hl := q.1, hm := q.2.1, hap := q.2.2, ham := by omega, hmb := hm, hb := Nat.le_refl N, hsz := by omega }
                have HH := Lib.hid (symMergeC cb k cf blk off cap N d0 w0 (N - a) a (a + K) N dj wr (Nat.le_refl _) PRE)
                clear PRE
                go_wp2_with (go_at_call 64; refine HH.out.mono ?_; rintro e w3 ⟨rfl, d3, p1, p2, p3⟩)
                go_roundg (N - K)
                case measure => omega
                case rel => exact ⟨2 * K, d3, by go_num, by omega, by omega, by omega, p3, LST.out d3 p1 p2⟩
              · have hmz : ¬ ((a + K : Nat) : Int) < (N : Int) := by omega
                have p2 : Aside (Srt k a N dj) := A.out.2.2.2.short haN (by omega)
                go_wp2
                go_roundg (N - K)
                case measure => omega
                case rel => exact ⟨2 * K, dj, by go_num, by omega, by omega, by omega, A.out.2.1, LST.out dj (permIn_refl _ _ _) p2.out⟩
        · have hltz2 : ¬ (K : Int) < (N : Int) := by omega
          go_wp2
          go_end0
          exact ⟨rfl, dk, A.out.2.1, A.out.2.2.sorted (by omega), A.out.1⟩
end Go.Proofs

namespace Go.Proofs
open Go.RowKit Go.Lib Go.Sort Go.Proofs.Stable Go.Proofs.YtdifaomkaekglaaW.PrintWords

def cmpV (a b : Int) : Int := if a < b then -1 else if a > b then 1 else 0
theorem ret_int {k : IntKind} {a b : Int} (h : a = b) : Ending.returned (.int k a) = .returned (.int k b) := by rw [h]
theorem isNaNC (a : Int) (w : World) : Calls Try.prog 61 #[.int .i64 a] w fun e w' => e = .returned (.bool false) ∧ w' = w := by
  go_enter Try.func61, Try.ntmps61
  go_wp2
  go_ret
  exact ⟨by simp, rfl⟩
theorem cmpV_lt {a b : Int} (h : a < b) : cmpV a b = -1 := by unfold cmpV; rw [if_pos h]
theorem cmpV_gt {a b : Int} (h : b < a) : cmpV a b = 1 := by unfold cmpV; rw [if_neg (by omega), if_pos h]
theorem cmpV_eq (a : Int) : cmpV a a = 0 := by unfold cmpV; rw [if_neg (by omega), if_neg (by omega)]
theorem compareC (a b : Int) (w : World) : Calls Try.prog 48 #[.int .i64 a, .int .i64 b] w fun e w' => e = .returned (.int .i64 (cmpV a b)) ∧ w' = w := by
  by_cases h1 : a < b
  · have hf := Lib.hid (cmpV_lt h1)
    have h2 : ¬ b < a := by omega
    go_enter Try.func48, Try.ntmps48
    go_wp2_with (go_at_call 61; refine (isNaNC _ _).mono ?_; rintro e w' ⟨rfl, rfl⟩)
    go_ret
    exact ⟨ret_int hf.out.symm, rfl⟩
  · by_cases h2 : b < a
    · have hf := Lib.hid (cmpV_gt h2)
      have h3 : decide (a < b) = false := decide_eq_false h1
      go_enter Try.func48, Try.ntmps48
      go_wp2_with (go_at_call 61; refine (isNaNC _ _).mono ?_; rintro e w' ⟨rfl, rfl⟩)
      go_ret
      exact ⟨ret_int hf.out.symm, rfl⟩
    · have e : a = b := by omega
      subst e
      have hf := Lib.hid (cmpV_eq a)
      go_enter Try.func48, Try.ntmps48
      go_wp2_with (go_at_call 61; refine (isNaNC _ _).mono ?_; rintro e w' ⟨rfl, rfl⟩)
      go_ret
      exact ⟨ret_int hf.out.symm, rfl⟩
set_option maxHeartbeats 1000000 in
theorem order1C (l : List Int) (bl : Nat) (A : Option Addr) (c : Nat) (x y : Int) (W : World) (hb : W.cell? ⟨bl, 0, none⟩ = some (.slice A l.length c)) (hr : ReadsInt W .i64 A l.length l)
    (hx0 : 0 ≤ x) (hx1 : x < (l.length : Int)) (hy0 : 0 ≤ y) (hy1 : y < (l.length : Int)) :
    Calls Try.prog 47 #[.int .i64 x, .int .i64 y, .pointer (some ⟨bl, 0, none⟩)] W fun e w' => e = .returned (.int .i64 (cmpV (keyAt l x) (keyAt l y))) ∧ ∃ q, w' = W.drewN q := by
  obtain ⟨ad, rfl, c1⟩ := hr.at_ x hx0 hx1
  obtain ⟨ad', e, c2⟩ := hr.at_ y hy0 hy1
  obtain rfl : ad = ad' := Option.some.inj e
  clear e hr
  obtain ⟨u, hu⟩ : ∃ u, u = keyAt l x := ⟨_, rfl⟩
  obtain ⟨v, hv⟩ : ∃ v, v = keyAt l y := ⟨_, rfl⟩
  have d1 : W.cell? (ad.add x.toNat) = some (.int .i64 u) := by rw [hu]; exact c1
  have d2 : W.cell? (ad.add y.toNat) = some (.int .i64 v) := by rw [hv]; exact c2
  rw [← hu, ← hv]
  clear c1 c2 hu hv
  go_enter Try.func47, Try.ntmps47
  go_wp2_with fail
  go_quiet ((go_at_call 48; exact Calls.quiet_of_same (compareC _ _ _)))
  go_wp2
  go_ret
  exact ⟨rfl, _, rfl⟩
end Go.Proofs

namespace Go.Proofs
open Go.RowKit Go.Lib Go.Sort Go.Proofs.Stable Go.Proofs.YtdifaomkaekglaaW.PrintWords

theorem encI_eq (x : Int) : encI x = .int .i64 x := rfl
theorem holds_of_row {w : World} {g : Nat} {cur : Array Value} {e : TypeId} {ss : List Int} (hb : w.heap[g]? = some (.cells cur e (0, 0))) (ht : cur.toList.take ss.length = nums .i64 ss) : Holds encI w g 0 ss.toArray := by
  intro j hj
  have hj' : j < ss.length := by simpa using hj
  refine ⟨?_, by simp [World.frozen?, hb]⟩
  have h1 : (cur.toList.take ss.length)[j]? = (nums .i64 ss)[j]? := by rw [ht]
  rw [List.getElem?_take_of_lt hj'] at h1
  simp only [World.cell?, hb, Nat.zero_add]
  rw [← Array.getElem?_toList, h1]
  simp [nums, encI_eq, hj']
theorem heap_putI {w : World} {g n : Nat} {os : Array Obj} {cur : Array Value} {e : TypeId} {fr : Nat × Nat} (d : Array Int) (hb : w.heap[g]? = some (.cells cur e fr)) :
    (sortWorld encI w g 0 n d os).heap[g]? = some (.cells (putCells encI 0 d cur) e fr) := by
  have hg : g < w.heap.size := (Array.getElem?_eq_some_iff.1 hb).1
  unfold sortWorld
  rw [heap_grow_old _ _ (by simpa using hg)]
  simp [putRow, mapBlock, Sort.ahead, Array.getElem?_modify, hb, onCells]
theorem grownBy_putI {w : World} {g n : Nat} {os : Array Obj} (d : Array Int) : w.grownBy (sortWorld encI w g 0 n d os) (some g) := by
  unfold sortWorld
  refine ⟨rfl, rfl, rfl, by simp, fun k hk hne => ?_⟩
  rw [heap_grow_old _ _ (by simpa using hk)]
  have : g ≠ k := fun e => hne (by rw [e])
  simp [putRow, mapBlock, Sort.ahead, Array.getElem?_modify, this]
theorem take_putI (cur : Array Value) (ts : List Int) (h : ts.length ≤ cur.size) : (putCells encI 0 ts.toArray cur).toList.take ts.length = nums .i64 ts := by
  apply List.ext_getElem?
  intro j
  by_cases hj : j < ts.length
  · rw [List.getElem?_take_of_lt hj, Array.getElem?_toList]
    simp [putCells, hj, show j < cur.size by omega, nums, encI_eq]
  · rw [List.getElem?_take_eq_none (by omega), List.getElem?_eq_none (by simp [nums]; omega)]
theorem ownsRow_putI {w : World} {base g cap n : Nat} {e : TypeId} {os : Array Obj} {cur : Array Value} {m : Nat} {ts : List Int} (hl : ts.length = m) (hbase : base ≤ g) (hb : w.heap[g]? = some (.cells cur e (0, 0)))
    (h1 : m ≤ cap) (h2 : cap ≤ maxLen) (h3 : cur.size = cap * 1) :
    (sortWorld encI w g 0 n ts.toArray os).ownsRow base e 1 (.slice (some ⟨g, 0, none⟩) m cap) m (nums .i64 ts) :=
  ⟨by simp [nums, hl], .inr ⟨g, cap, _, rfl, hbase, heap_putI _ hb, h1, h2, by simp [putCells, h3], by rw [Nat.mul_one, ← hl]; exact take_putI cur ts (by omega)⟩⟩
/-- The comparator of flex.Order, in all worlds that the sort comes through. -/
theorem cmpIn_order (l : List Int) (bl : Nat) (A : Option Addr) (c blk size : Nat) (w : World) (hb : w.cell? ⟨bl, 0, none⟩ = some (.slice A l.length c)) (hr : ReadsInt w .i64 A l.length l)
    (h1 : bl ≠ blk) (h2 : ∀ ad, A = some ad → ad.block ≠ blk) :
    CmpIn 47 #[.pointer (some ⟨bl, 0, none⟩)] (fun x y => cmpV (keyAt l x) (keyAt l y)) blk 0 size l.length w := by
  intro m os dk hs x y hx0 hx1 hy0 hy1
  have c0 : (sortWorld encI w blk 0 m dk os).cell? ⟨bl, 0, none⟩ = some (.slice A l.length c) := (cell?_sortWorld_other encI w blk 0 m dk os _ h1 (World.block_lt_of_cell? w _ hb)).trans hb
  have r0 : ReadsInt (sortWorld encI w blk 0 m dk os) .i64 A l.length l := ⟨hr.1, hr.2.1, fun hn => by
    obtain ⟨ad, e, hc⟩ := hr.2.2 hn
    refine ⟨ad, e, fun j hj => ?_⟩
    have hcj := hc j hj
    have hbk : (ad.add j).block = ad.block := by unfold Addr.add; split <;> rfl
    exact (cell?_sortWorld_other encI w blk 0 m dk os _ (by rw [hbk]; exact h2 ad e) (World.block_lt_of_cell? w _ hcj)).trans hcj⟩
  refine (order1C l bl A c x y _ c0 r0 hx0 hx1 hy0 hy1).mono fun e w' ⟨he, q, hw⟩ => ⟨he, q, #[], ?_⟩
  rw [hw, grow_empty]
/-- The sort at no element. -/
theorem insNilC (A : Option Addr) (cap : Nat) (f : Value) (w : World) : Calls Try.prog 63 #[.slice A 0 cap, .int .i64 0, .int .i64 0, f] w fun e w' => e = .returned (.tuple #[]) ∧ w' = w := by
  go_enter Try.func63, Try.ntmps63
  go_wp2
  go_loop [8] (fun i => i = .int .i64 1) (fun _ => 0)
  case atStart => rfl
  case round =>
    subst hrel
    go_wp2
    go_end0
    exact ⟨rfl, rfl⟩
theorem stableNilC (A : Option Addr) (cap : Nat) (f : Value) (w : World) : Calls Try.prog 60 #[.slice A 0 cap, .int .i64 0, f] w fun e w' => e = .returned (.tuple #[]) ∧ w' = w := by
  go_enter Try.func60, Try.ntmps60
  go_wp2
  go_loop [8, 7] (fun b a => b = .int .i64 20 ∧ a = .int .i64 0) (fun _ _ => 0)
  case atStart => exact ⟨rfl, rfl⟩
  case round =>
    obtain ⟨rfl, rfl⟩ := hrel
    go_wp2_with (go_at_call 63; refine (insNilC _ _ _ _).mono ?_; rintro e w' ⟨rfl, rfl⟩)
    go_loop [6] (fun k => k = .int .i64 20) (fun _ => 0)
    case atStart => rfl
    case round =>
      subst hrel
      go_wp2
      go_end0
      exact ⟨rfl, rfl⟩
theorem sortNilC (A : Option Addr) (cap : Nat) (f : Value) (w : World) : Calls Try.prog 46 #[.slice A 0 cap, f] w fun e w' => e = .returned (.tuple #[]) ∧ w' = w := by
  go_enter Try.func46, Try.ntmps46
  go_wp2_with (go_at_call 60; refine (stableNilC _ _ _ _).mono ?_; rintro e w' ⟨rfl, rfl⟩)
  go_end0
  exact ⟨rfl, rfl⟩
theorem sortC (cb : Array Value) (k : Int → Int) (cf : Int → Int → Int) (hcf : ∀ x y, cf x y < 0 ↔ k x < k y) (blk off cap N : Nat) (d : Array Int) (w : World) (R1 : Row1 encI w blk off d) (hcmp : CmpIn 47 cb cf blk off d.size N w)
    (hN : d.size = N) (hr : Rng N d) (hinc : Inc 0 N d) (hsz : N < 1152921504606846976) :
    Calls Try.prog 46 #[.slice (some ⟨blk, off, none⟩) N cap, .func (.func 47) #[] cb] w fun e w' => e = .returned (.tuple #[]) ∧
      ∃ d', PermIn 0 N d d' ∧ Srt k 0 N d' ∧ SW encI w blk off d' w' := by
  have HH := Lib.hid (stableC cb k cf hcf blk off cap N d d w w R1 hcmp rfl hN (SW.start R1.hH) hr hinc hsz)
  clear hcf R1 hcmp hN hr hinc
  go_enter Try.func46, Try.ntmps46
  go_wp2_with (go_at_call 60; refine HH.out.mono ?_; rintro e w' ⟨rfl, hd⟩)
  go_end0
  exact ⟨rfl, hd⟩
end Go.Proofs

namespace Go.Proofs
open Go.RowKit Go.Lib Go.Sort Go.Proofs.Stable Go.Proofs.YtdifaomkaekglaaW.PrintWords

theorem ord_info3 : (Try.prog.info? 3).map (fun i => (i.zero, i.size, i.bytes)) = some (some (.int .i64 0), 1, 8) := by kernel_rfl
theorem places_succ (k : Nat) : places (k + 1) = places k ++ [(k : Int)] := by simp [places, List.range_succ]
theorem nums_places (k : Nat) : nums .i64 (places (k + 1)) = nums .i64 (places k) ++ [.int .i64 k] := by rw [places_succ, nums_append]; rfl
theorem own_not_box {w : World} {base n : Nat} {e : TypeId} {size : Nat} {v : Value} {xs : List Value} (h : w.ownsRow base e size v n xs) {g : Nat} {cells : Array Value} {t : TypeId} (hb : w.heap[g]? = some (.cells cells t (0, 0))) (hne : e ≠ t) : some g ≠ v.ownBlock := by
  intro hk
  obtain ⟨cs, hc⟩ := own_typed h g hk.symm
  rw [hb] at hc
  injection hc with hc
  injection hc with _ ht
  exact hne ht.symm
theorem alloc_get_old (w : World) (o : Obj) (i : Nat) (h : i < w.heap.size) : (w.alloc o).heap[i]? = w.heap[i]? := Below.heap_alloc w o i h
def OrdPost (l : List Int) (w : World) (e : Ending) (w' : World) : Prop :=
  ∃ v, e = .returned v ∧ Kd.R (Kd.int .i64) 3 w' w.heap.size (fun _ => True) v (orderV l) ∧ Below w.heap.size w w'
set_option maxHeartbeats 4000000 in
theorem orderC (l : List Int) (A : Option Addr) (c : Nat) (w : World) (hr : ReadsInt w .i64 A l.length l) (hl : l.length ≤ 1099511627776) :
    Calls Try.prog 22 #[.slice A l.length c] w (OrdPost l w) := by
  obtain ⟨i0, hi0, hz0, hz1, hz2⟩ := info_parts ord_info3
  obtain ⟨n, hn⟩ : ∃ n, n = l.length := ⟨_, rfl⟩
  have HR : Aside (n = l.length ∧ ReadsInt w .i64 A l.length l ) := ⟨hn, hr⟩
  rw [← hn] at hl ⊢
  clear hr hn
  go_enter Try.func22, Try.ntmps22
  go_wp2
  have HI : Aside ((w.alloc (Obj.cells #[.slice A n c] 28)).heap[w.heap.size]? = some (.cells #[.slice A n c] 28 (0, 0)) ∧ Below w.heap.size w (w.alloc (Obj.cells #[.slice A n c] 28))) := ⟨heap_alloc_new _ _, (Below.refl _ _).alloc (Nat.le_refl _) _⟩
  go_loopw [3, 7] (fun v i wr => ∃ k : Nat, k ≤ n ∧ i = .int .i64 k ∧ Aside (wr.ownsRow w.heap.size 3 1 v k (nums .i64 (places k)) ∧ wr.heap[w.heap.size]? = some (.cells #[.slice A n c] 28 (0, 0)) ∧ Below w.heap.size w wr)) (fun _ i _ => n - (intOf i).toNat)
  case atStart => exact ⟨0, Nat.zero_le _, rfl, own_nil _ _ _ _, HI.out⟩
  case round =>
    clear HI
    obtain ⟨k, hk, rfl, A1⟩ := hrel
    have hs : w.heap.size < wr.heap.size := (Array.getElem?_eq_some_iff.1 A1.out.2.1).1
    by_cases hlt : k < n
    · have hltz : (k : Int) < (n : Int) := by omega
      go_wp2_with (at_builtin; refine wpList_append_own _ rfl _ _ 43 rfl w.heap.size 3 i0 (.int .i64 0) 1 8 Try.underlying43 hi0 hz0 hz1 hz2 rfl (by decide) _ _ _ rfl (A1.out.1.alloc _) ⟨wr.heap.size, 0, none⟩ 1 1 [.int .i64 k] rfl rfl ?c1 ?c2 ?c3 ?c4 ?c5 ?_)
      case c1 => exact cell_one_new _ _ _
      case c2 => simp [Value.oneCell']
      case c3 => simp only [maxLen]; omega
      case c4 => omega
      case c5 => simp; omega
      intro v1 w1 hown1 hgrow _
      have A2 : Aside (w1.ownsRow w.heap.size 3 1 v1 (k + 1) (nums .i64 (places (k + 1))) ∧ w1.heap[w.heap.size]? = some (.cells #[.slice A n c] 28 (0, 0)) ∧ Below w.heap.size w w1) := by
        refine ⟨by rw [nums_places]; exact hown1, ?_, (A1.out.2.2.alloc A1.out.2.2.size _).grown hgrow (by simp; omega) (own_base A1.out.1)⟩
        rw [hgrow.block w.heap.size (by simp; omega) (own_not_box A1.out.1 A1.out.2.1 (by decide)), alloc_get_old _ _ _ hs]
        exact A1.out.2.1
      clear hown1 hgrow A1
      go_wp2
      go_roundw
      case rel => exact ⟨k + 1, by omega, by go_num, A2.out⟩
      case measure => simp [intOf]; omega
    · obtain rfl : k = n := by omega
      have hltz : ¬ (k : Int) < (k : Int) := by omega
      by_cases h0 : k = 0
      · obtain ⟨A', c', hv⟩ := own_slice A1.out.1
        have A2 : Aside (wr.ownsRow w.heap.size 3 1 (.slice A' 0 c') 0 (nums .i64 []) ∧ Below w.heap.size w wr ∧ orderV l = []) := by
          refine ⟨?_, A1.out.2.2, List.eq_nil_of_length_eq_zero (by rw [orderV_length, ← HR.out.1]; exact h0)⟩
          have q := A1.out.1
          rw [hv, h0] at q
          exact q
        rw [h0] at hv
        clear A1
        subst h0
        subst hv
        go_wp2_with (go_at_call 46; refine (sortNilC _ _ _ _).mono ?_; rintro e w' ⟨rfl, rfl⟩)
        go_ret
        exact ⟨_, rfl, by rw [A2.out.2.2]; exact Kd.R_of_own A2.out.1 (fun _ _ => trivial), A2.out.2.1⟩
      · have hq : ∃ g cap cur, u3 = .slice (some ⟨g, 0, none⟩) k cap ∧ Aside (w.heap.size ≤ g ∧ wr.heap[g]? = some (.cells cur 3 (0, 0)) ∧ k ≤ cap ∧ cap ≤ maxLen ∧ cur.size = cap * 1 ∧ cur.toList.take (k * 1) = nums .i64 (places k) ∧ g ≠ w.heap.size) := by
          have ne := own_not_box A1.out.1 A1.out.2.1 (by decide)
          rcases A1.out.1.2 with ⟨hv, h1⟩ | ⟨g, cap, cur, hv, hbase, hb, h1, h2, h3, h4⟩
          · exact absurd h1 h0
          · refine ⟨g, cap, cur, hv, hbase, hb, h1, h2, h3, h4, fun e => ne ?_⟩
            rw [hv]; simp [Value.ownBlock, e]
        obtain ⟨g, cap, cur, hv, Q⟩ := hq
        have R1 : Row1 encI wr g 0 (places k).toArray := by
          obtain ⟨q1, q2, q3, q4, q5, q6, q7⟩ := Q.out
          exact ⟨fun x => by first | rfl | exact ⟨rfl, rfl⟩ | simp [encI_eq], holds_of_row q2 (by rw [places_length]; simpa using q6), (Array.getElem?_eq_some_iff.1 q2).1⟩
        have CM : CmpIn 47 #[.pointer (some ⟨w.heap.size, 0, none⟩)] (fun x y => cmpV (keyAt l x) (keyAt l y)) g 0 (places k).toArray.size k wr := by
          obtain ⟨q1, q2, q3, q4, q5, q6, q7⟩ := Q.out
          obtain ⟨e1, e2⟩ := HR.out
          have e3 : ∀ ad, A = some ad → ad.block < w.heap.size := fun ad h => by
            obtain ⟨ad2, h2, hc⟩ := e2.2.2 (by omega)
            rw [h] at h2
            injection h2 with h2
            have h3 := World.block_lt_of_cell? w _ (hc 0 (by omega))
            rw [h2]
            have h4 : (ad2.add 0).block = ad2.block := by unfold Addr.add; split <;> rfl
            rwa [h4] at h3
          have hc : wr.cell? ⟨w.heap.size, 0, none⟩ = some (.slice A l.length c) := by rw [← e1]; exact (cell_of_row _ _ _ _ _ _ A1.out.2.1).trans rfl
          have h := cmpIn_order l w.heap.size A c g (places k).toArray.size wr hc (e2.below A1.out.2.2) (Ne.symm q7) (fun ad h => by have := e3 ad h; omega)
          rw [← e1] at h
          exact h
        have HH := Lib.hid (sortC #[.pointer (some ⟨w.heap.size, 0, none⟩)] (keyAt l) (fun x y => cmpV (keyAt l x) (keyAt l y)) (fun x y => by unfold cmpV; split <;> (try split) <;> omega) g 0 cap k (places k).toArray wr R1 CM (by simp [places]) (fun i hi => by
          have hi' : i < k := by simpa [places] using hi
          rw [getElem!_pos _ i hi]
          simp [places]
          omega) (inc_places k) (by omega))
        have A2 : Aside (Below w.heap.size w wr) := A1.out.2.2
        clear R1 CM A1
        subst hv
        go_wp2_with (go_at_call 46; refine HH.out.mono ?_; rintro e w1 ⟨rfl, d1, p1, p2, ⟨nn, os, rfl⟩⟩)
        go_ret
        obtain ⟨q1, q2, q3, q4, q5, q6, q7⟩ := Q.out
        have e1 := HR.out.1
        have hd : d1.toList = orderV l := order_of_sort l d1 (by rw [← e1]; exact p1) (by rw [← e1]; exact p2)
        refine ⟨_, rfl, ?_, A2.out.grown (grownBy_putI d1) A2.out.size (fun j hj => by cases hj; exact q1)⟩
        have hl2 : (orderV l).length = k := by rw [orderV_length, e1]
        have ow := ownsRow_putI (n := nn) (os := os) (ts := orderV l) hl2 q1 q2 q3 q4 q5
        have ed : (orderV l).toArray = d1 := by rw [← hd]
        rw [ed] at ow
        exact Kd.R_of_own (by rw [hl2]; exact ow) (fun _ _ => trivial)
end Go.Proofs
