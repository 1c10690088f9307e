/- Contracts of functions of the given program and of Go's library, proved by walking their text, and plain lemmas (part C); no condition beside those that each theorem states. -/
import Derived.Test.YtdifaomkaekglaaFB
import Derived.Deep.DeepCutAuto
import Derived.Deep.CutBlock
import Derived.Lib.Hide
set_option linter.unusedVariables false
set_option linter.unusedSimpArgs false
namespace Go.Proofs
open Go.RowKit Go.Lib Go.Sort Go.Proofs.Stable

/-- What symMerge is told. -/
structure SymPre (cb : Array Value) (k : Int → Int) (cf : Int → Int → Int) (blk off a m b N : Nat) (d0 d : Array Int) (w0 w : World) : Prop where
  hcf : ∀ x y, cf x y < 0 ↔ k x < k y
  R1 : Row1 encI w0 blk off d0
  hcmp : CmpIn 47 cb cf blk off d0.size N w0
  hs : d.size = d0.size
  hN : d.size = N
  S : SW encI w0 blk off d w
  hr : Rng N d
  hl : Srt k a m d
  hm : Srt k m b d
  hap : Apart a m b d
  ham : a < m
  hmb : m < b
  hb : b ≤ N
  hsz : N < 4611686018427387904
def SymPost (k : Int → Int) (blk off a b : Nat) (d : Array Int) (w0 : World) (e : Ending) (w' : World) : Prop :=
  e = .returned (.tuple #[]) ∧ ∃ d', PermIn a b d d' ∧ Srt k a b d' ∧ SW encI w0 blk off d' w'

set_option maxHeartbeats 16000000 in
set_option maxRecDepth 100000 in
theorem symGenC (cb : Array Value) (k : Int → Int) (cf : Int → Int → Int) (blk off cap N : Nat) (d0 : Array Int) (w0 : World) (size : Nat)
    (ih : ∀ a m b d w, b - a < size → SymPre cb k cf blk off a m b N d0 d w0 w → Calls Try.prog 64 #[.slice (some ⟨blk, off, none⟩) N cap, .int .i64 a, .int .i64 m, .int .i64 b, .func (.func 47) #[] cb] w (SymPost k blk off a b d w0))
    (a m b : Nat) (d : Array Int) (w : World) (hsize : b - a = size) (H : SymPre cb k cf blk off a m b N d0 d w0 w) (h1 : a + 1 < m) (h2 : m + 1 < b) :
    Calls Try.prog 64 #[.slice (some ⟨blk, off, none⟩) N cap, .int .i64 a, .int .i64 m, .int .i64 b, .func (.func 47) #[] cb] w (SymPost k blk off a b d w0) := by
  have hb := H.hb
  have hsz := H.hsz
  have HP : Aside (SymPre cb k cf blk off a m b N d0 d w0 w) := H
  obtain ⟨z, hz, hz1⟩ : ∃ z : Nat, IntKind.i64.wrap ((m : Int) - (a : Int)) = (z : Int) ∧ ((z : Int) == 1) = false := ⟨m - a, by rw [IntKind.wrap_i64]; omega, beq_eq_false_iff_ne.2 (by omega)⟩
  obtain ⟨y, hy, hy1⟩ : ∃ z : Nat, IntKind.i64.wrap ((b : Int) - (m : Int)) = (z : Int) ∧ ((z : Int) == 1) = false := ⟨b - m, by rw [IntKind.wrap_i64]; omega, beq_eq_false_iff_ne.2 (by omega)⟩
  have IH : Aside (∀ a m b d w, b - a < size → SymPre cb k cf blk off a m b N d0 d w0 w → Calls Try.prog 64 #[.slice (some ⟨blk, off, none⟩) N cap, .int .i64 a, .int .i64 m, .int .i64 b, .func (.func 47) #[] cb] w (SymPost k blk off a b d w0)) := ih
  clear ih H
  obtain ⟨mid, emid, FM⟩ : ∃ mid : Nat, ((a : Int) + (b : Int)) / 2 = (mid : Int) ∧ Aside (a < mid ∧ mid < b ∧ 2 * mid ≤ a + b ∧ a + b ≤ 2 * mid + 1) := ⟨(a + b) / 2, by omega, by omega, by omega, by omega, by omega⟩
  have mixed : Try.prog.follows .mixedOrders = true := by kernel_rfl
  go_enter Try.func64, Try.ntmps64
  go_upto_if 140 with (fail)
  go_cut [20, 21] (fun v20 v21 wc => ∃ s0 r0 : Nat, v20 = .int .i64 s0 ∧ v21 = .int .i64 r0 ∧ wc = w ∧ Aside (a ≤ s0 ∧ s0 ≤ r0 ∧ r0 ≤ m ∧ (s0 = a ∨ mid + m = b + s0) ∧ (r0 = m ∨ r0 = mid) ∧ mid + m ≤ b + s0 ∧ r0 ≤ mid))
  case first =>
    as_aux_lemma =>
      by_cases hm : mid < m
      · have hmz : (mid : Int) < (m : Int) := by omega
        obtain ⟨s0, es, FS⟩ : ∃ s0 : Nat, IntKind.i64.wrap ((mid : Int) + (m : Int) - (b : Int)) = (s0 : Int) ∧ Aside (mid + m = b + s0) := ⟨mid + m - b, by have := FM.out; rw [IntKind.wrap_i64]; omega, show _ = _ by have := FM.out; omega⟩
        go_wp2
        go_meet
        case rel => exact ⟨s0, mid, rfl, rfl, rfl, by have := FM.out; have := FS.out; omega, by have := FM.out; have := FS.out; omega, by omega, Or.inr FS.out, Or.inr rfl, by have := FS.out; omega, Nat.le_refl _⟩
      · have hmz : ¬ (mid : Int) < (m : Int) := by omega
        go_wp2
        go_meet
        case rel => exact ⟨a, m, rfl, rfl, rfl, Nat.le_refl _, by omega, Nat.le_refl _, Or.inl rfl, Or.inl rfl, by have := FM.out; omega, by omega⟩
  case rest =>
    as_aux_lemma =>
      obtain ⟨s0, r0, rfl, rfl, rfl, FS⟩ := hcut
      have ep : IntKind.i64.wrap ((mid : Int) + (m : Int) - 1) = (mid : Int) + (m : Int) - 1 := by have := FM.out; rw [IntKind.wrap_i64]; omega
      have BD : Aside (a < mid ∧ mid < b ∧ mid + m ≤ b + s0 ∧ r0 ≤ mid ∧ a ≤ s0 ∧ r0 ≤ m) := ⟨FM.out.1, FM.out.2.1, FS.out.2.2.2.2.2.1, FS.out.2.2.2.2.2.2, FS.out.1, FS.out.2.2.1⟩
      go_wp2
      go_loopg [20, 21] (r0 - s0) (fun g1 vi vj wr => ∃ (i j : Nat), vi = .int .i64 i ∧ vj = .int .i64 j ∧ s0 ≤ i ∧ i ≤ j ∧ j ≤ r0 ∧ j - i ≤ g1 ∧ Aside (SW encI w0 blk off d wr ∧ (i = s0 ∨ R k d[i - 1]! d[mid + m - i]!) ∧ (j = r0 ∨ R k d[mid + m - 1 - j]! d[j]!)))
      case atStart => exact ⟨s0, r0, rfl, rfl, Nat.le_refl _, FS.out.2.1, Nat.le_refl _, Nat.le_refl _, HP.out.S, Or.inl rfl, Or.inl rfl⟩
      case round =>
        obtain ⟨i, j, rfl, rfl, hsi, hij, hjr, hg1, A⟩ := hrel
        by_cases hlt : i < j
        · have hltz : (i : Int) < (j : Int) := by omega
          obtain ⟨h, eh, F⟩ : ∃ h : Nat, ((i : Int) + (j : Int)) / 2 = (h : Int) ∧ Aside (i ≤ h ∧ h < j) := ⟨(i + j) / 2, by omega, by omega, by omega⟩
          obtain ⟨u, eu, FU⟩ : ∃ u : Nat, IntKind.i64.wrap ((mid : Int) + (m : Int) - 1 - (h : Int)) = (u : Int) ∧ Aside (u + h + 1 = mid + m ∧ m ≤ u ∧ u < b) :=
            ⟨mid + m - 1 - h, by have := BD.out; have := F.out; rw [IntKind.wrap_i64]; omega, by have := BD.out; have := F.out; omega, by have := BD.out; have := F.out; omega, by have := BD.out; have := F.out; omega⟩
          obtain ⟨x, hx⟩ : ∃ x, x = d[u]! := ⟨_, rfl⟩
          obtain ⟨v, hv⟩ : ∃ x, x = d[h]! := ⟨_, rfl⟩
          have b1 : (h : Int) < (N : Int) := by have := F.out; have := BD.out; omega
          have b2 : (u : Int) < (N : Int) := by have := FU.out; omega
          have l1 := A.out.1.cl HP.out.R1 HP.out.hs u (by have := HP.out.hN; omega)
          have l2 := A.out.1.cl HP.out.R1 HP.out.hs h (by have := HP.out.hN; omega)
          rw [← hx] at l1
          rw [← hv] at l2
          have hc := cmp_at A.out.1 HP.out.hcmp HP.out.hs (x := x) (y := v) (by rw [hx]; exact HP.out.hr u (by have := HP.out.hN; omega)) (by rw [hv]; exact HP.out.hr h (by have := HP.out.hN; omega))
          have HXY : Aside (x = d[u]! ∧ v = d[h]! ∧ d[h]! < d[u]!) := ⟨hx, hv, HP.out.hap h u (by have := BD.out; have := F.out; omega) (by have := BD.out; have := F.out; omega) FU.out.2.1 FU.out.2.2⟩
          clear hx hv
          by_cases hq : cf x v < 0
          · have hd : decide (cf x v < 0) = true := decide_eq_true hq
            have KEY : Aside (R k d[mid + m - 1 - h]! d[h]!) := by
              have q := (HP.out.hcf x v).1 hq
              rw [HXY.out.1, HXY.out.2.1] at q
              rw [show mid + m - 1 - h = u by have := FU.out; omega]
              exact R.of_key q
            go_wp2_with fail
            go_quiet_grown (first | (go_at_call 47; refine Calls.grown_of (hc _ _)))
            have S2 : Aside (SW encI w0 blk off d (grow (wr.drewN nq) osq)) := A.out.1.grown nq osq
            clear l1 l2 hc
            generalize grow (wr.drewN nq) osq = w2 at S2 ⊢
            clear nq osq
            go_wp2
            go_roundg (h - i)
            case measure => have := F.out; omega
            case rel => exact ⟨i, h, rfl, rfl, hsi, F.out.1, by have := F.out; omega, Nat.le_refl _, S2.out, A.out.2.1, Or.inr KEY.out⟩
          · have hd : decide (cf x v < 0) = false := decide_eq_false hq
            have hw1 : IntKind.i64.wrap ((h : Int) + 1) = (h : Int) + 1 := by rw [IntKind.wrap_i64]; have := F.out; omega
            have KEY : Aside (R k d[h + 1 - 1]! d[mid + m - (h + 1)]!) := by
              have q := HP.out.hcf x v
              rw [HXY.out.1, HXY.out.2.1] at q
              rw [HXY.out.1, HXY.out.2.1] at hq
              rw [show mid + m - (h + 1) = u by have := FU.out; omega, show h + 1 - 1 = h by omega]
              exact R.of_lt HXY.out.2.2 (by omega)
            go_wp2_with fail
            go_quiet_grown (first | (go_at_call 47; refine Calls.grown_of (hc _ _)))
            have S2 : Aside (SW encI w0 blk off d (grow (wr.drewN nq) osq)) := A.out.1.grown nq osq
            clear l1 l2 hc
            generalize grow (wr.drewN nq) osq = w2 at S2 ⊢
            clear nq osq
            go_wp2
            go_roundg (j - (h + 1))
            case measure => have := F.out; omega
            case rel => exact ⟨h + 1, j, by go_num, rfl, by have := F.out; omega, F.out.2, hjr, Nat.le_refl _, S2.out, Or.inr KEY.out, A.out.2.2⟩
        · have hltz : ¬ (i : Int) < (j : Int) := by omega
          have e : i = j := by omega
          subst e
          clear hij hg1 hlt
          obtain ⟨z2, ez2, FE⟩ : ∃ e : Nat, IntKind.i64.wrap ((mid : Int) + (m : Int) - (i : Int)) = (e : Int) ∧ Aside (e + i = mid + m ∧ m ≤ e ∧ e ≤ b ∧ a ≤ i ∧ i ≤ m ∧ i ≤ mid ∧ mid ≤ e) :=
            ⟨mid + m - i, by have := BD.out; rw [IntKind.wrap_i64]; omega, by have := BD.out; omega, by have := BD.out; omega, by have := BD.out; omega, by have := BD.out; omega, by have := BD.out; omega, by have := BD.out; omega, by have := BD.out; omega⟩
          have Q1 : Aside (i = a ∨ z2 = b ∨ R k d[i - 1]! d[z2]!) := by
            have h1 := A.out.2.1
            have h2 := FS.out.2.2.2.1
            have h3 := FE.out
            rcases h1 with h1 | h1
            · rcases h2 with h2 | h2
              · exact Or.inl (by omega)
              · exact Or.inr (Or.inl (by omega))
            · rw [show mid + m - i = z2 by omega] at h1; exact Or.inr (Or.inr h1)
          have Q2 : Aside (i = m ∨ z2 = m ∨ R k d[z2 - 1]! d[i]!) := by
            have h1 := A.out.2.2
            have h2 := FS.out.2.2.2.2.1
            have h3 := FE.out
            rcases h1 with h1 | h1
            · rcases h2 with h2 | h2
              · exact Or.inl (by omega)
              · exact Or.inr (Or.inl (by omega))
            · rw [show mid + m - 1 - i = z2 - 1 by omega] at h1; exact Or.inr (Or.inr h1)
          have SPL : Aside (∀ d', Rotd i m z2 d d' → PermIn i z2 d d' → Split k a i mid z2 b d') := fun d' r p => by
            have h3 := FE.out
            have h := split_of h3.2.2.2.1 h3.2.2.2.2.1 h3.2.1 h3.2.2.1 HP.out.hl HP.out.hm HP.out.hap Q1.out Q2.out r (fun q hq => out_of p q hq)
            rw [show i + (z2 - m) = mid by omega] at h
            exact h
          obtain ⟨g1, G1⟩ : ∃ g : Bool, Aside (g = true ↔ i < m ∧ m < z2) := ⟨decide (i < m ∧ m < z2), decide_eq_true_iff⟩
          go_upto_region 39 with (fail)
          go_cut [185] (fun v wc => v = .bool g1 ∧ wc = wr)
          case first =>
            as_aux_lemma =>
              by_cases c1 : i < m
              · have c1z : (i : Int) < (m : Int) := by omega
                by_cases c2 : m < z2
                · have c2z : (m : Int) < (z2 : Int) := by omega
                  go_wp2
                  go_meet
                  case rel => exact ⟨by rw [G1.out.2 ⟨c1, c2⟩], rfl⟩
                · have c2z : ¬ (m : Int) < (z2 : Int) := by omega
                  go_wp2
                  go_meet
                  case rel => exact ⟨by rw [Bool.eq_false_iff.2 fun h => c2 (G1.out.1 h).2], rfl⟩
              · have c1z : ¬ (i : Int) < (m : Int) := by omega
                go_wp2
                go_meet
                case rel => exact ⟨by rw [Bool.eq_false_iff.2 fun h => c1 (G1.out.1 h).1], rfl⟩
          case rest =>
            as_aux_lemma =>
              obtain ⟨rfl, rfl⟩ := hcut
              go_upto_if 185 with (fail)
              go_cut [185] (fun v wc => ∃ d1, Aside (SW encI w0 blk off d1 wc ∧ PermIn i z2 d d1 ∧ Split k a i mid z2 b d1))
              case first =>
                as_aux_lemma =>
                  have hp := HP.out
                  have fe := FE.out
                  cases g1 with
                  | true =>
                    have GG : Aside _ := G1.out.1 rfl
                    have i1 : i < m := GG.out.1
                    have i2 : m < z2 := GG.out.2
                    have i3 : z2 ≤ N := by omega
                    have q1 : Row1 encI w0 blk off d0 := hp.R1
                    have q2 : Aside (d.size = d0.size ∧ d.size = N) := ⟨hp.hs, hp.hN⟩
                    clear hp fe GG
                    go_wp2_with (go_at_call 66; refine (rotateC blk off cap i m z2 N _ d0 d w0 _ q1 q2.out.1 q2.out.2 A.out.1 i1 i2 i3 hsz).mono ?_; rintro e w2 ⟨rfl, d1, r1, r2, r3⟩)
                    go_meet
                    case rel => exact ⟨d1, r3, r2, SPL.out d1 r1 r2⟩
                  | false =>
                    have c : ¬ (i < m ∧ m < z2) := fun h => by have := G1.out.2 h; cases this
                    have r1 : Aside (Rotd i m z2 d d) := Rotd.none d (by omega) (by omega) (by omega)
                    clear hp fe c
                    go_wp2
                    go_meet
                    case rel => exact ⟨d, A.out.1, permIn_refl _ _ _, SPL.out d r1.out (permIn_refl _ _ _)⟩
              case rest =>
                as_aux_lemma =>
                  obtain ⟨d1, B⟩ := hcut
                  obtain ⟨g2, G2⟩ : ∃ g : Bool, Aside (g = true ↔ a < i ∧ i < mid) := ⟨decide (a < i ∧ i < mid), decide_eq_true_iff⟩
                  go_upto_region 41 with (fail)
                  go_cut [199] (fun v wd => v = .bool g2 ∧ wd = wc)
                  case first =>
                    as_aux_lemma =>
                      by_cases c1 : a < i
                      · have c1z : (a : Int) < (i : Int) := by omega
                        by_cases c2 : i < mid
                        · have c2z : (i : Int) < (mid : Int) := by omega
                          go_wp2
                          go_meet
                          case rel => exact ⟨by rw [G2.out.2 ⟨c1, c2⟩], rfl⟩
                        · have c2z : ¬ (i : Int) < (mid : Int) := by omega
                          go_wp2
                          go_meet
                          case rel => exact ⟨by rw [Bool.eq_false_iff.2 fun h => c2 (G2.out.1 h).2], rfl⟩
                      · have c1z : ¬ (a : Int) < (i : Int) := by omega
                        go_wp2
                        go_meet
                        case rel => exact ⟨by rw [Bool.eq_false_iff.2 fun h => c1 (G2.out.1 h).1], rfl⟩
                  case rest =>
                    as_aux_lemma =>
                      obtain ⟨rfl, rfl⟩ := hcut
                      go_upto_if 199 with (fail)
                      go_cut [199] (fun v we => ∃ d2, Aside (SW encI w0 blk off d2 we ∧ PermIn a mid d1 d2 ∧ Srt k a mid d2))
                      case first =>
                        as_aux_lemma =>
                          have hp := HP.out
                          have sz1 := size_of B.out.2.1
                          cases g2 with
                          | true =>
                            have GG : Aside _ := G2.out.1 rfl
                            have PRE : SymPre cb k cf blk off a i mid N d0 d1 w0 wc := { hcf := hp.hcf, R1 := hp.R1, hcmp := hp.hcmp, hs := sz1.trans hp.hs, hN := sz1.trans hp.hN, S := B.out.1, hr := hp.hr.perm B.out.2.1 (by have := hp.hN; have := FE.out; omega), hl := B.out.2.2.l1, hm := B.out.2.2.m1, hap := B.out.2.2.ap1, ham := GG.out.1, hmb := GG.out.2, hb := by have := BD.out; omega, hsz := hsz }
                            have HH := Lib.hid (IH.out a i mid d1 wc (by have := BD.out; omega) PRE)
                            clear hp sz1 PRE GG
                            go_wp2_with (go_at_call 64; refine HH.out.mono ?_; rintro e w2 ⟨rfl, d2, r1, r2, r3⟩)
                            go_meet
                            case rel => exact ⟨d2, r3, r1, r2⟩
                          | false =>
                            have c : ¬ (a < i ∧ i < mid) := fun h => by have := G2.out.2 h; cases this
                            have r1 : Aside (Srt k a mid d1) := by
                              have fe := FE.out
                              have b1 := B.out.2.2.l1
                              have b2 := B.out.2.2.m1
                              by_cases e : i = a
                              · rw [e] at b2; exact b2
                              · have e2 : i = mid := by omega
                                rw [e2] at b1; exact b1
                            clear hp sz1 c
                            go_wp2
                            go_meet
                            case rel => exact ⟨d1, B.out.1, permIn_refl _ _ _, r1.out⟩
                      case rest =>
                        as_aux_lemma =>
                          obtain ⟨d2, C⟩ := hcut
                          obtain ⟨g3, G3⟩ : ∃ g : Bool, Aside (g = true ↔ mid < z2 ∧ z2 < b) := ⟨decide (mid < z2 ∧ z2 < b), decide_eq_true_iff⟩
                          go_upto_region 43 with (fail)
                          go_cut [213] (fun v wd => v = .bool g3 ∧ wd = wc)
                          case first =>
                            as_aux_lemma =>
                              by_cases c1 : mid < z2
                              · have c1z : (mid : Int) < (z2 : Int) := by omega
                                by_cases c2 : z2 < b
                                · have c2z : (z2 : Int) < (b : Int) := by omega
                                  go_wp2
                                  go_meet
                                  case rel => exact ⟨by rw [G3.out.2 ⟨c1, c2⟩], rfl⟩
                                · have c2z : ¬ (z2 : Int) < (b : Int) := by omega
                                  go_wp2
                                  go_meet
                                  case rel => exact ⟨by rw [Bool.eq_false_iff.2 fun h => c2 (G3.out.1 h).2], rfl⟩
                              · have c1z : ¬ (mid : Int) < (z2 : Int) := by omega
                                go_wp2
                                go_meet
                                case rel => exact ⟨by rw [Bool.eq_false_iff.2 fun h => c1 (G3.out.1 h).1], rfl⟩
                          case rest =>
                            as_aux_lemma =>
                              obtain ⟨rfl, rfl⟩ := hcut
                              have hp := HP.out
                              have sz1 := size_of B.out.2.1
                              have sz2 := size_of C.out.2.1
                              have fe := FE.out
                              have bd := BD.out
                              have hN := hp.hN
                              have l2 : Srt k mid z2 d2 := B.out.2.2.l2.same fun q h1 h2 => out_of C.out.2.1 q (Or.inr h1)
                              have m2 : Srt k z2 b d2 := B.out.2.2.m2.same fun q h1 h2 => out_of C.out.2.1 q (Or.inr (by omega))
                              have ap2 : Apart mid z2 b d2 := fun p q h1 h2 h3 h4 => by
                                rw [out_of C.out.2.1 p (Or.inr h1), out_of C.out.2.1 q (Or.inr (by omega))]; exact B.out.2.2.ap2 p q h1 h2 h3 h4
                              have FIN : Aside (∀ d3, PermIn mid b d2 d3 → Srt k mid b d3 → PermIn a b d d3 ∧ Srt k a b d3) := fun d3 p3 s3 => by
                                have q := B.out.2.2.done (by omega) (by omega) (by omega) (by omega) (by omega) C.out.2.1 C.out.2.2 p3 s3
                                exact ⟨ptrans (pmono B.out.2.1 (by omega) (by omega) (by omega)) q.1, q.2⟩
                              cases g3 with
                              | true =>
                                have GG : Aside _ := G3.out.1 rfl
                                have PRE : SymPre cb k cf blk off mid z2 b N d0 d2 w0 wc := { hcf := hp.hcf, R1 := hp.R1, hcmp := hp.hcmp, hs := sz2.trans (sz1.trans hp.hs), hN := sz2.trans (sz1.trans hp.hN), S := C.out.1, hr := (hp.hr.perm B.out.2.1 (by omega)).perm C.out.2.1 (by omega), hl := l2, hm := m2, hap := ap2, ham := GG.out.1, hmb := GG.out.2, hb := hb, hsz := hsz }
                                have HH := Lib.hid (IH.out mid z2 b d2 wc (by omega) PRE)
                                clear hp sz1 sz2 fe bd hN l2 m2 ap2 PRE GG
                                go_wp2_with (go_at_call 64; refine HH.out.mono ?_; rintro e w2 ⟨rfl, d3, r1, r2, r3⟩)
                                go_end0
                                have q := FIN.out d3 r1 r2
                                exact ⟨rfl, d3, q.1, q.2, r3⟩
                              | false =>
                                have c : ¬ (mid < z2 ∧ z2 < b) := fun h => by have := G3.out.2 h; cases this
                                have r1 : Srt k mid b d2 := by
                                  by_cases e : z2 = b
                                  · rw [e] at l2; exact l2
                                  · have e2 : mid = z2 := by omega
                                    rw [← e2] at m2; exact m2
                                have q : Aside _ := FIN.out d2 (permIn_refl _ _ _) r1
                                clear hp sz1 sz2 fe bd hN l2 m2 ap2 c r1
                                go_wp2
                                go_end0
                                exact ⟨rfl, d2, q.out.1, q.out.2, C.out.1⟩
theorem symMergeC (cb : Array Value) (k : Int → Int) (cf : Int → Int → Int) (blk off cap N : Nat) (d0 : Array Int) (w0 : World) : ∀ (size a m b : Nat) (d : Array Int) (w : World), b - a ≤ size → SymPre cb k cf blk off a m b N d0 d w0 w →
    Calls Try.prog 64 #[.slice (some ⟨blk, off, none⟩) N cap, .int .i64 a, .int .i64 m, .int .i64 b, .func (.func 47) #[] cb] w (SymPost k blk off a b d w0) := by
  intro size
  induction size with
  | zero => intro a m b d w h H; have := H.ham; have := H.hmb; omega
  | succ size ih =>
    intro a m b d w h H
    by_cases c1 : m = a + 1
    · exact symLeftC cb k cf H.hcf blk off cap a m b N d0 d w0 w H.R1 H.hcmp H.hs H.hN H.S H.hr H.hl H.hm H.hap c1 H.hmb H.hb H.hsz
    · by_cases c2 : b = m + 1
      · exact symRightC cb k cf H.hcf blk off cap a m b N d0 d w0 w H.R1 H.hcmp H.hs H.hN H.S H.hr H.hl H.hm H.hap (by have := H.ham; omega) c2 H.hb H.hsz
      · exact symGenC cb k cf blk off cap N d0 w0 (b - a) (fun a' m' b' d' w' h' H' => ih a' m' b' d' w' (by omega) H') a m b d w rfl H (by have := H.ham; omega) (by have := H.hmb; omega)
end Go.Proofs
