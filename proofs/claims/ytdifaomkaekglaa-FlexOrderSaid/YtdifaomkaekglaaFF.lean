/- Contracts of functions of the given program and of Go's library, proved by walking their text, and plain lemmas (part F); no condition beside those that each theorem states. -/
import Derived.Test.YtdifaomkaekglaaFE
import Derived.Deep.DeepCutAuto
import Derived.Deep.CutBlock
import Derived.Deep.AppendLies
import Derived.Deep.RegionLaw
import Derived.Test.YtdifaomkaekglaaWLast
set_option linter.unusedVariables false
set_option linter.unusedSimpArgs false
namespace Go.Proofs.Flx
open Go.RowKit Go.Proofs Go.Proofs.Prt Go.Proofs.YtdifaomkaekglaaW.PrintWords
def allTo (pr : It → Int) (its : List It) (fs : List Bool) : Nat → Int
  | 0 => 0
  | k + 1 => allTo pr its fs k + (if fs.getD k false = true then 0 else pr (its.getD k zIt))
theorem allTo_bd (pr : It → Int) (its : List It) (fs : List Bool) (hb : ∀ i, 0 ≤ pr (its.getD i zIt) ∧ pr (its.getD i zIt) ≤ 6400) : ∀ k, 0 ≤ allTo pr its fs k ∧ allTo pr its fs k ≤ 6400 * (k : Int)
  | 0 => by simp [allTo]
  | k + 1 => by
    have h := allTo_bd pr its fs hb k
    have g := hb k
    unfold allTo
    split <;> omega
def shr1 (pr : It → Int) (much all : Int) (x : It) : Int × Bool := if pr x > 0 then (partV much (pr x) (max all 64), partB much (pr x) (max all 64)) else (0, true)
def givV (less : Bool) (pr : It → Int) (much all : Int) (x : It) : Int := if less then subV x.1 (shr1 pr much all x).1 else addV x.1 (shr1 pr much all x).1
def givB (less : Bool) (pr : It → Int) (much all : Int) (x : It) : Bool := (shr1 pr much all x).2 && (if less then subB x.1 (shr1 pr much all x).1 else addB x.1 (shr1 pr much all x).1)
theorem givV_addV (pr : It → Int) (much all : Int) (x : It) : givV false pr much all x = addV x.1 (shr1 pr much all x).1 := by unfold givV; rw [if_neg Bool.false_ne_true]
theorem givV_subV (pr : It → Int) (much all : Int) (x : It) : givV true pr much all x = subV x.1 (shr1 pr much all x).1 := by unfold givV; rw [if_pos rfl]
theorem givB_addV (pr : It → Int) (much all : Int) (x : It) : givB false pr much all x = ((shr1 pr much all x).2 && addB x.1 (shr1 pr much all x).1) := by unfold givB; rw [if_neg Bool.false_ne_true]
theorem givB_subV (pr : It → Int) (much all : Int) (x : It) : givB true pr much all x = ((shr1 pr much all x).2 && subB x.1 (shr1 pr much all x).1) := by unfold givB; rw [if_pos rfl]
def giv (less : Bool) (pr : It → Int) (much all : Int) (its : List It) (fs : List Bool) (i : Nat) (s : List Int × Bool) : List Int × Bool :=
  if fs.getD i false = true then s else (s.1.set i (givV less pr much all (its.getD i zIt)), s.2 || !givB less pr much all (its.getD i zIt))
def givN (less : Bool) (pr : It → Int) (much all : Int) (its : List It) (fs : List Bool) : Nat → Nat → List Int × Bool → List Int × Bool
  | 0, _, s => s
  | d + 1, i, s => givN less pr much all its fs d (i + 1) (giv less pr much all its fs i s)
theorem givN_step {less : Bool} {pr : It → Int} {much all : Int} {its : List It} {fs : List Bool} {n k : Nat} (h : k < n) (s : List Int × Bool) : givN less pr much all its fs (n - k) k s = givN less pr much all its fs (n - (k + 1)) (k + 1) (giv less pr much all its fs k s) := by
  obtain ⟨d, hd⟩ : ∃ d, n - k = d + 1 := ⟨n - k - 1, by omega⟩
  rw [hd, show n - (k + 1) = d by omega]; rfl
def prG (x : It) : Int := x.2.2.1
def prS (x : It) : Int := x.2.2.2
theorem wtGC (a b c d : Int) (w : World) : Calls Try.prog 36 #[.agg #[.int .i64 a, .int .i64 b, .int .i64 c, .int .i64 d]] w fun e w' => e = .returned (.int .i64 c) ∧ w.alloc (Obj.cells #[.int .i64 a, .int .i64 b, .int .i64 c, .int .i64 d] 48) = w' := by
  go_enter Try.func36, Try.ntmps36
  go_wp2
  go_ret
  exact ⟨rfl, rfl⟩
theorem wtSC (a b c d : Int) (w : World) : Calls Try.prog 37 #[.agg #[.int .i64 a, .int .i64 b, .int .i64 c, .int .i64 d]] w fun e w' => e = .returned (.int .i64 d) ∧ w.alloc (Obj.cells #[.int .i64 a, .int .i64 b, .int .i64 c, .int .i64 d] 48) = w' := by
  go_enter Try.func37, Try.ntmps37
  go_wp2
  go_ret
  exact ⟨rfl, rfl⟩
set_option maxHeartbeats 8000000 in
set_option maxRecDepth 100000 in
theorem giveGC (B P Z F c : Nat) (A : Option Addr) (w0 w : World) (its : List It) (zs : List Int) (fs : List Bool) (rough : Bool) (much : Int) (H : Shr B P Z F A c w0 its zs fs rough w) (hz : zs.length = its.length) (hf : fs.length = its.length) (hn : its.length ≤ 100)
    (hb : ∀ i, 0 ≤ prG (its.getD i zIt) ∧ prG (its.getD i zIt) ≤ 6400) :
    Calls Try.prog 35 #[.pointer (some ⟨P, 0, none⟩), .int .i64 much, .bool false, .func (.func 36) #[] #[]] w fun e w' => e = .returned (.tuple #[]) ∧
      Shr B P Z F A c w0 its (givN false prG much (allTo prG its fs its.length) its fs its.length 0 (zs, rough)).1 fs (givN false prG much (allTo prG its fs its.length) its fs its.length 0 (zs, rough)).2 w' := by
  obtain ⟨n, en⟩ : ∃ n, n = its.length := ⟨_, rfl⟩
  have HN : Aside (n = its.length ∧ zs.length = n ∧ fs.length = n ∧ ∀ i, 0 ≤ prG (its.getD i zIt) ∧ prG (its.getD i zIt) ≤ 6400) := ⟨en, by omega, by omega, hb⟩
  have A0 : Aside (Shr B P Z F A c w0 its zs fs rough w) := H
  obtain ⟨p0, p1, p2, p3, p4⟩ := H.cells
  rw [← en] at p0 hn
  obtain ⟨s1, es⟩ : ∃ s1, s1 = givN false prG much (allTo prG its fs its.length) its fs its.length 0 (zs, rough) := ⟨_, rfl⟩
  have HS : Aside (s1 = givN false prG much (allTo prG its fs n) its fs n 0 (zs, rough)) := by rw [en]; exact es
  rw [← es]
  clear H p1 p2 p3 p4 hz hf en hb es
  go_enter Try.func35, Try.ntmps35
  go_wp2
  go_loopw [8, 20] (fun v i wr => ∃ (k : Nat), k ≤ n ∧ i = .int .i64 k ∧ Aside (v = .int .i64 (allTo prG its fs k) ∧ Shr B P Z F A c w0 its zs fs rough wr)) (fun _ i _ => n - (intOf i).toNat)
  case atStart => exact ⟨0, Nat.zero_le _, rfl, rfl, A0.out⟩
  case round =>
    clear p0
    obtain ⟨k, hk, rfl, C⟩ := hrel
    have S : Aside (Shr B P Z F A c w0 its zs fs rough wr) := C.out.2
    have hbd := allTo_bd prG its fs HN.out.2.2.2 k
    by_cases hlt : k < n
    · have hltz : (k : Int) < (n : Int) := by omega
      obtain ⟨_, p1, p2, _, _⟩ := S.out.cells
      have hnn := HN.out
      have hPl := lt_get S.out.hP
      have hFl := lt_get S.out.hF
      obtain ⟨f1, f2⟩ := S.out.fAt k (by omega)
      obtain ⟨ad, hA, c1, c2, c3, c4⟩ := S.out.itAt k (by omega)
      have hbk := hnn.2.2.2 k
      rw [hnn.2.2.1] at p2
      obtain ⟨x, hx⟩ : ∃ x, x = its.getD k zIt := ⟨_, rfl⟩
      obtain ⟨f, hf⟩ : ∃ x, x = fs.getD k false := ⟨_, rfl⟩
      rw [← hx] at c1 c2 c3 c4 hbk
      rw [← hf] at f1
      obtain ⟨t, ht⟩ : ∃ t, t = allTo prG its fs k := ⟨_, rfl⟩
      rw [← ht] at hbd
      have HX : Aside (allTo prG its fs (k + 1) = t + (if f = true then 0 else prG x)) := by rw [hx, hf, ht]; exact rfl
      have hv : u8 = .int .i64 t := by rw [ht]; exact C.out.1
      clear hx hf f2 hnn ht C p1
      subst hv
      subst hA
      obtain ⟨x1, x2, x3, x4⟩ := x
      simp only [prG] at c1 c2 c3 c4 hbk HX
      cases f
      · go_wp2_with (go_at_call 36; refine (wtGC _ _ _ _ _).mono ?_; rintro e w' ⟨rfl, rfl⟩)
        go_roundw
        case rel =>
          have h := HX.out
          rw [if_neg (by decide)] at h
          exact ⟨k + 1, by omega, by go_num, by rw [h], (S.out.alloc _).alloc _⟩
        case measure => simp [intOf]; omega
      · go_wp2
        go_roundw
        case rel =>
          have h := HX.out
          rw [if_pos rfl, Int.add_zero] at h
          exact ⟨k + 1, by omega, by go_num, by rw [h], S.out.alloc _⟩
        case measure => simp [intOf]; omega
    · obtain rfl : k = n := by omega
      have hltz : ¬ (k : Int) < (k : Int) := by omega
      obtain ⟨al, hal⟩ : ∃ t, t = allTo prG its fs k := ⟨_, rfl⟩
      rw [← hal] at hbd
      have hv : u8 = .int .i64 al := by rw [hal]; exact C.out.1
      have HS2 : Aside (s1 = givN false prG much al its fs k 0 (zs, rough)) := by rw [hal]; exact HS.out
      obtain ⟨p0, _, _, _, _⟩ := S.out.cells
      rw [← HN.out.1] at p0
      clear hal C HS A0
      subst hv
      go_wp2
      go_loopw [44] (fun i wr => ∃ (j : Nat) (s : List Int × Bool), j ≤ k ∧ i = .int .i64 j ∧ Aside (givN false prG much al its fs (k - j) j s = s1 ∧ s.1.length = k ∧ Shr B P Z F A c w0 its s.1 fs s.2 wr)) (fun i _ => k - (intOf i).toNat)
      case atStart => exact ⟨0, (zs, rough), Nat.zero_le _, rfl, HS2.out.symm, HN.out.2.1, S.out⟩
      case round =>
        as_aux_lemma =>
        clear S HS2 p0
        obtain ⟨j, ⟨z, r⟩, hj, rfl, C⟩ := hrel
        by_cases hlt2 : j < k
        · have hltz2 : (j : Int) < (k : Int) := by omega
          obtain ⟨q0, q1, q3⟩ := C.out
          have step := givN_step (less := false) (pr := prG) (much := much) (all := al) (its := its) (fs := fs) hlt2 (z, r)
          rw [q0] at step
          simp only at q1 q3
          obtain ⟨_, p1, p2, p3, p4⟩ := q3.cells
          have hnn := HN.out
          have hPl := lt_get q3.hP
          have hZl := lt_get q3.hZ
          have hFl := lt_get q3.hF
          obtain ⟨z1, z2⟩ := q3.zAt j (by omega)
          obtain ⟨f1, f2⟩ := q3.fAt j (by omega)
          obtain ⟨ad, hA, c1, c2, c3, c4⟩ := q3.itAt j (by omega)
          have hbk := hnn.2.2.2 j
          rw [q1] at p1
          rw [hnn.2.2.1] at p2
          obtain ⟨x, hx⟩ : ∃ x, x = its.getD j zIt := ⟨_, rfl⟩
          obtain ⟨f, hf⟩ : ∃ x, x = fs.getD j false := ⟨_, rfl⟩
          obtain ⟨zz, hzz⟩ : ∃ x, x = z.getD j 0 := ⟨_, rfl⟩
          rw [← hx] at c1 c2 c3 c4 hbk
          rw [← hf] at f1
          rw [← hzz] at z1
          have HX : Aside (giv false prG much al its fs j (z, r) = if f = true then (z, r) else (z.set j (givV false prG much al x), r || !givB false prG much al x)) := by rw [giv, hx, hf]; exact rfl
          have D : Aside (s1 = givN false prG much al its fs (k - (j + 1)) (j + 1) (giv false prG much al its fs j (z, r)) ∧ z.length = k ∧ Shr B P Z F A c w0 its z fs r wr) := ⟨step, q1, q3⟩
          have hne : Aside (P ≠ Z ∧ P ≠ F ∧ Z ≠ F) := ⟨q3.PZ, q3.PF, q3.ZF⟩
          clear hx hf hzz f2 hnn C q0 q1 q3 step
          subst hA
          obtain ⟨x1, x2, x3, x4⟩ := x
          simp only [prG] at c1 c2 c3 c4 hbk
          cases f
          · obtain ⟨hq, hhq⟩ : ∃ h, wr.heap.size = h := ⟨_, rfl⟩
            rw [hhq] at hPl hZl hFl
            go_upto_region 12 with (fail)
            go_cut [14] (fun v wd => v = .int .i64 x3 ∧ Aside (Shr B P Z F (some ad) c w0 its z fs r wd ∧ wd.heap[hq]? = some (.cells #[.int .i64 x1, .int .i64 x2, .int .i64 x3, .int .i64 x4] 48 (0, 0))))
            case first =>
              as_aux_lemma =>
              go_wp2_with (go_at_call 36; refine (wtGC _ _ _ _ _).mono ?_; rintro e w' ⟨rfl, rfl⟩)
              go_meet
              case rel => exact ⟨rfl, (D.out.2.2.alloc _).alloc _, by rw [← hhq, Below.heap_alloc _ _ _ (by simp)]; exact heap_alloc_new _ _⟩
            case rest =>
            as_aux_lemma =>
            obtain ⟨rfl, SW2⟩ := hcut
            clear hhq c1 c2 c3 c4 p1 p2 p3 p4 z1 z2 f1
            go_upto_if 60 with (fail)
            obtain ⟨sv, hsv⟩ : ∃ s, s = shr1 prG much al (x1, x2, x3, x4) := ⟨_, rfl⟩
            obtain ⟨s1v, s2v⟩ := sv
            have HSV : Aside ((s1v, s2v) = shr1 prG much al (x1, x2, x3, x4)) := hsv
            have GX : Aside (givV false prG much al (x1, x2, x3, x4) = addV x1 s1v ∧ givB false prG much al (x1, x2, x3, x4) = (s2v && addB x1 s1v)) := by
              rw [givV_addV, givB_addV, ← hsv]
              exact ⟨rfl, rfl⟩
            clear hsv
            go_cut [13] (fun v wc => v = .int .i64 s1v ∧ Aside (Shr B P Z F (some ad) c w0 its z fs (r || !s2v) wc ∧ wc.heap[hq]? = some (.cells #[.int .i64 x1, .int .i64 x2, .int .i64 x3, .int .i64 x4] 48 (0, 0))))
            case first =>
              as_aux_lemma =>
              obtain ⟨_, _, _, p3, p4⟩ := SW2.out.1.cells
              by_cases hw : 0 < x3
              · by_cases hm : 64 ≤ al
                · have E1 : Aside (shr1 prG much al (x1, x2, x3, x4) = (partV much x3 al, partB much x3 al)) := by
                    unfold shr1
                    rw [if_pos (show prG (x1, x2, x3, x4) > 0 from hw), show max al 64 = al by omega]
                    exact rfl
                  go_wp2_with (first | (go_at_call 50; refine (partC _ _ _ _).mono ?_; rintro e w' ⟨rfl, rfl⟩) | (go_at_call 57; refine (ofC P _ _ r _ p3 p4).mono ?_; rintro e w' ⟨rfl, rfl⟩))
                  go_meet
                  case rel =>
                    obtain ⟨e1, e2⟩ := Prod.mk.inj (HSV.out.trans E1.out)
                    rw [e1, e2]
                    exact ⟨rfl, SW2.out.1.setRough _, (heap_setCell_other _ _ _ _ (by simp; omega)).trans SW2.out.2⟩
                · have E1 : Aside (shr1 prG much al (x1, x2, x3, x4) = (partV much x3 64, partB much x3 64)) := by
                    unfold shr1
                    rw [if_pos (show prG (x1, x2, x3, x4) > 0 from hw), show max al 64 = 64 by omega]
                    exact rfl
                  go_wp2_with (first | (go_at_call 50; refine (partC _ _ _ _).mono ?_; rintro e w' ⟨rfl, rfl⟩) | (go_at_call 57; refine (ofC P _ _ r _ p3 p4).mono ?_; rintro e w' ⟨rfl, rfl⟩))
                  go_meet
                  case rel =>
                    obtain ⟨e1, e2⟩ := Prod.mk.inj (HSV.out.trans E1.out)
                    rw [e1, e2]
                    exact ⟨rfl, SW2.out.1.setRough _, (heap_setCell_other _ _ _ _ (by simp; omega)).trans SW2.out.2⟩
              · have E1 : Aside (shr1 prG much al (x1, x2, x3, x4) = (0, true)) := by
                  unfold shr1
                  rw [if_neg (show ¬ prG (x1, x2, x3, x4) > 0 from hw)]
                  exact rfl
                go_wp2
                go_meet
                case rel =>
                  obtain ⟨e1, e2⟩ := Prod.mk.inj (HSV.out.trans E1.out)
                  rw [e1, e2]
                  exact ⟨rfl, by simpa using SW2.out.1, SW2.out.2⟩
            case rest =>
              as_aux_lemma =>
              obtain ⟨rfl, R⟩ := hcut
              clear SW2 HSV
              obtain ⟨_, p1, _, p3, p4⟩ := R.out.1.cells
              rw [D.out.2.1] at p1
              obtain ⟨z1, z2⟩ := R.out.1.zAt j (by rw [D.out.2.1]; exact hlt2)
              have i1 : wc.cell? ⟨hq, 0, none⟩ = some (.int .i64 x1) := (cell_of_row _ _ _ _ _ _ R.out.2).trans rfl
              go_upto_region 17 with (fail)
              have hne2 := hne.out
              have Sx : Aside (Shr B P Z F (some ad) c w0 its (z.set j (addV x1 s1v)) fs (r || !(s2v && addB x1 s1v)) ((wc.setCell ⟨P, 3, none⟩ (.bool ((r || !s2v) || !addB x1 s1v))).setCell ⟨Z, j, none⟩ (.int .i64 (addV x1 s1v)))) := by
                have q := (R.out.1.setRough ((r || !s2v) || !addB x1 s1v)).setZ j (addV x1 s1v)
                rw [Bool.not_and, ← Bool.or_assoc]
                exact q
              have K1 : Aside ((wc.setCell ⟨P, 3, none⟩ (.bool ((r || !s2v) || !addB x1 s1v))).cell? ⟨P, 1, none⟩ = some (.slice (some ⟨Z, 0, none⟩) k k)) := (World.cell?_setCell_other wc _ _ _ (by simp)).trans p1
              have K2 : Aside ((wc.setCell ⟨P, 3, none⟩ (.bool ((r || !s2v) || !addB x1 s1v))).cell? ⟨hq, 0, none⟩ = some (.int .i64 x1)) := (World.cell?_setCell_other wc _ _ _ (by simp)).trans i1
              have K3 : Aside (((wc.setCell ⟨P, 3, none⟩ (.bool ((r || !s2v) || !addB x1 s1v))).setCell ⟨Z, j, none⟩ (.int .i64 (addV x1 s1v))).cell? ⟨P, 1, none⟩ = some (.slice (some ⟨Z, 0, none⟩) k k)) := (World.cell?_setCell_other _ _ _ _ (by intro e; simp only [Addr.mk.injEq] at e; exact hne2.1 e.1.symm)).trans K1.out
              have K4 : Aside (((wc.setCell ⟨P, 3, none⟩ (.bool ((r || !s2v) || !addB x1 s1v))).setCell ⟨Z, j, none⟩ (.int .i64 (addV x1 s1v))).cell? ⟨hq, 0, none⟩ = some (.int .i64 x1)) := (World.cell?_setCell_other _ _ _ _ (by intro e; simp only [Addr.mk.injEq] at e; omega)).trans K2.out
              have z3 : (wc.setCell ⟨P, 3, none⟩ (.bool ((r || !s2v) || !addB x1 s1v))).cell? ⟨Z, j, none⟩ = some (.int .i64 (z.getD j 0)) := (World.cell?_setCell_other _ _ _ _ (by intro e; simp only [Addr.mk.injEq] at e; exact hne2.1 e.1)).trans z1
              obtain ⟨zz2, hzz2⟩ : ∃ q, q = z.getD j 0 := ⟨_, rfl⟩
              rw [← hzz2] at z3 z1
              clear hne2 hzz2
              as_aux_lemma =>
              go_region_held3 (fun w' => w'.cell? ⟨P, 1, none⟩ = some (.slice (some ⟨Z, 0, none⟩) k k) ∧ w'.cell? ⟨hq, 0, none⟩ = some (.int .i64 x1))
                (first | exact ⟨K1.out, K2.out⟩ | exact ⟨K3.out, K4.out⟩ | go_keep)
                (first | (go_at_call 32; refine (addC _ _ _).mono ?_; rintro e w' ⟨rfl, rfl⟩) | (go_at_call 57; refine (ofC P _ _ (r || !s2v) _ ?_ ?_).mono ?_; (simpa using p3); (simpa using p4); rintro e w' ⟨rfl, rfl⟩))
              as_aux_lemma =>
              clear K1 K2 K3 K4 z1 z3 p1 p3 p4 i1
              generalize ((wc.setCell ⟨P, 3, none⟩ (.bool ((r || !s2v) || !addB x1 s1v))).setCell ⟨Z, j, none⟩ (.int .i64 (addV x1 s1v))) = W9 at Sx ⊢
              go_wp2
              go_roundw
              case rel =>
                have h := HX.out
                rw [if_neg (by decide), GX.out.1, GX.out.2] at h
                exact ⟨j + 1, (z.set j (addV x1 s1v), r || !(s2v && addB x1 s1v)), by omega, by go_num, by rw [← h]; exact D.out.1.symm, by simp [D.out.2.1], Sx.out.drew⟩
              case measure => simp [intOf]; omega
          · go_wp2
            go_roundw
            case rel =>
              have h := HX.out
              rw [if_pos rfl] at h
              exact ⟨j + 1, (z, r), by omega, by go_num, by rw [← h]; exact D.out.1.symm, D.out.2.1, D.out.2.2.alloc _⟩
            case measure => simp [intOf]; omega
        · obtain rfl : j = k := by omega
          have hltz2 : ¬ (j : Int) < (j : Int) := by omega
          have E : Aside ((z, r) = s1) := by
            have q := C.out.1
            rw [Nat.sub_self] at q
            exact q
          go_wp2
          go_end0
          rw [← E.out]
          exact ⟨rfl, C.out.2.2⟩
set_option maxHeartbeats 8000000 in
set_option maxRecDepth 100000 in
theorem giveSC (B P Z F c : Nat) (A : Option Addr) (w0 w : World) (its : List It) (zs : List Int) (fs : List Bool) (rough : Bool) (much : Int) (H : Shr B P Z F A c w0 its zs fs rough w) (hz : zs.length = its.length) (hf : fs.length = its.length) (hn : its.length ≤ 100)
    (hb : ∀ i, 0 ≤ prS (its.getD i zIt) ∧ prS (its.getD i zIt) ≤ 6400) :
    Calls Try.prog 35 #[.pointer (some ⟨P, 0, none⟩), .int .i64 much, .bool true, .func (.func 37) #[] #[]] w fun e w' => e = .returned (.tuple #[]) ∧
      Shr B P Z F A c w0 its (givN true prS much (allTo prS its fs its.length) its fs its.length 0 (zs, rough)).1 fs (givN true prS much (allTo prS its fs its.length) its fs its.length 0 (zs, rough)).2 w' := by
  obtain ⟨n, en⟩ : ∃ n, n = its.length := ⟨_, rfl⟩
  have HN : Aside (n = its.length ∧ zs.length = n ∧ fs.length = n ∧ ∀ i, 0 ≤ prS (its.getD i zIt) ∧ prS (its.getD i zIt) ≤ 6400) := ⟨en, by omega, by omega, hb⟩
  have A0 : Aside (Shr B P Z F A c w0 its zs fs rough w) := H
  obtain ⟨p0, p1, p2, p3, p4⟩ := H.cells
  rw [← en] at p0 hn
  obtain ⟨s1, es⟩ : ∃ s1, s1 = givN true prS much (allTo prS its fs its.length) its fs its.length 0 (zs, rough) := ⟨_, rfl⟩
  have HS : Aside (s1 = givN true prS much (allTo prS its fs n) its fs n 0 (zs, rough)) := by rw [en]; exact es
  rw [← es]
  clear H p1 p2 p3 p4 hz hf en hb es
  go_enter Try.func35, Try.ntmps35
  go_wp2
  go_loopw [8, 20] (fun v i wr => ∃ (k : Nat), k ≤ n ∧ i = .int .i64 k ∧ Aside (v = .int .i64 (allTo prS its fs k) ∧ Shr B P Z F A c w0 its zs fs rough wr)) (fun _ i _ => n - (intOf i).toNat)
  case atStart => exact ⟨0, Nat.zero_le _, rfl, rfl, A0.out⟩
  case round =>
    clear p0
    obtain ⟨k, hk, rfl, C⟩ := hrel
    have S : Aside (Shr B P Z F A c w0 its zs fs rough wr) := C.out.2
    have hbd := allTo_bd prS its fs HN.out.2.2.2 k
    by_cases hlt : k < n
    · have hltz : (k : Int) < (n : Int) := by omega
      obtain ⟨_, p1, p2, _, _⟩ := S.out.cells
      have hnn := HN.out
      have hPl := lt_get S.out.hP
      have hFl := lt_get S.out.hF
      obtain ⟨f1, f2⟩ := S.out.fAt k (by omega)
      obtain ⟨ad, hA, c1, c2, c3, c4⟩ := S.out.itAt k (by omega)
      have hbk := hnn.2.2.2 k
      rw [hnn.2.2.1] at p2
      obtain ⟨x, hx⟩ : ∃ x, x = its.getD k zIt := ⟨_, rfl⟩
      obtain ⟨f, hf⟩ : ∃ x, x = fs.getD k false := ⟨_, rfl⟩
      rw [← hx] at c1 c2 c3 c4 hbk
      rw [← hf] at f1
      obtain ⟨t, ht⟩ : ∃ t, t = allTo prS its fs k := ⟨_, rfl⟩
      rw [← ht] at hbd
      have HX : Aside (allTo prS its fs (k + 1) = t + (if f = true then 0 else prS x)) := by rw [hx, hf, ht]; exact rfl
      have hv : u8 = .int .i64 t := by rw [ht]; exact C.out.1
      clear hx hf f2 hnn ht C p1
      subst hv
      subst hA
      obtain ⟨x1, x2, x3, x4⟩ := x
      simp only [prS] at c1 c2 c3 c4 hbk HX
      cases f
      · go_wp2_with (go_at_call 37; refine (wtSC _ _ _ _ _).mono ?_; rintro e w' ⟨rfl, rfl⟩)
        go_roundw
        case rel =>
          have h := HX.out
          rw [if_neg (by decide)] at h
          exact ⟨k + 1, by omega, by go_num, by rw [h], (S.out.alloc _).alloc _⟩
        case measure => simp [intOf]; omega
      · go_wp2
        go_roundw
        case rel =>
          have h := HX.out
          rw [if_pos rfl, Int.add_zero] at h
          exact ⟨k + 1, by omega, by go_num, by rw [h], S.out.alloc _⟩
        case measure => simp [intOf]; omega
    · obtain rfl : k = n := by omega
      have hltz : ¬ (k : Int) < (k : Int) := by omega
      obtain ⟨al, hal⟩ : ∃ t, t = allTo prS its fs k := ⟨_, rfl⟩
      rw [← hal] at hbd
      have hv : u8 = .int .i64 al := by rw [hal]; exact C.out.1
      have HS2 : Aside (s1 = givN true prS much al its fs k 0 (zs, rough)) := by rw [hal]; exact HS.out
      obtain ⟨p0, _, _, _, _⟩ := S.out.cells
      rw [← HN.out.1] at p0
      clear hal C HS A0
      subst hv
      go_wp2
      go_loopw [44] (fun i wr => ∃ (j : Nat) (s : List Int × Bool), j ≤ k ∧ i = .int .i64 j ∧ Aside (givN true prS much al its fs (k - j) j s = s1 ∧ s.1.length = k ∧ Shr B P Z F A c w0 its s.1 fs s.2 wr)) (fun i _ => k - (intOf i).toNat)
      case atStart => exact ⟨0, (zs, rough), Nat.zero_le _, rfl, HS2.out.symm, HN.out.2.1, S.out⟩
      case round =>
        as_aux_lemma =>
        clear S HS2 p0
        obtain ⟨j, ⟨z, r⟩, hj, rfl, C⟩ := hrel
        by_cases hlt2 : j < k
        · have hltz2 : (j : Int) < (k : Int) := by omega
          obtain ⟨q0, q1, q3⟩ := C.out
          have step := givN_step (less := true) (pr := prS) (much := much) (all := al) (its := its) (fs := fs) hlt2 (z, r)
          rw [q0] at step
          simp only at q1 q3
          obtain ⟨_, p1, p2, p3, p4⟩ := q3.cells
          have hnn := HN.out
          have hPl := lt_get q3.hP
          have hZl := lt_get q3.hZ
          have hFl := lt_get q3.hF
          obtain ⟨z1, z2⟩ := q3.zAt j (by omega)
          obtain ⟨f1, f2⟩ := q3.fAt j (by omega)
          obtain ⟨ad, hA, c1, c2, c3, c4⟩ := q3.itAt j (by omega)
          have hbk := hnn.2.2.2 j
          rw [q1] at p1
          rw [hnn.2.2.1] at p2
          obtain ⟨x, hx⟩ : ∃ x, x = its.getD j zIt := ⟨_, rfl⟩
          obtain ⟨f, hf⟩ : ∃ x, x = fs.getD j false := ⟨_, rfl⟩
          obtain ⟨zz, hzz⟩ : ∃ x, x = z.getD j 0 := ⟨_, rfl⟩
          rw [← hx] at c1 c2 c3 c4 hbk
          rw [← hf] at f1
          rw [← hzz] at z1
          have HX : Aside (giv true prS much al its fs j (z, r) = if f = true then (z, r) else (z.set j (givV true prS much al x), r || !givB true prS much al x)) := by rw [giv, hx, hf]; exact rfl
          have D : Aside (s1 = givN true prS much al its fs (k - (j + 1)) (j + 1) (giv true prS much al its fs j (z, r)) ∧ z.length = k ∧ Shr B P Z F A c w0 its z fs r wr) := ⟨step, q1, q3⟩
          have hne : Aside (P ≠ Z ∧ P ≠ F ∧ Z ≠ F) := ⟨q3.PZ, q3.PF, q3.ZF⟩
          clear hx hf hzz f2 hnn C q0 q1 q3 step
          subst hA
          obtain ⟨x1, x2, x3, x4⟩ := x
          simp only [prS] at c1 c2 c3 c4 hbk
          cases f
          · obtain ⟨hq, hhq⟩ : ∃ h, wr.heap.size = h := ⟨_, rfl⟩
            rw [hhq] at hPl hZl hFl
            go_upto_region 12 with (fail)
            go_cut [14] (fun v wd => v = .int .i64 x4 ∧ Aside (Shr B P Z F (some ad) c w0 its z fs r wd ∧ wd.heap[hq]? = some (.cells #[.int .i64 x1, .int .i64 x2, .int .i64 x3, .int .i64 x4] 48 (0, 0))))
            case first =>
              as_aux_lemma =>
              go_wp2_with (go_at_call 37; refine (wtSC _ _ _ _ _).mono ?_; rintro e w' ⟨rfl, rfl⟩)
              go_meet
              case rel => exact ⟨rfl, (D.out.2.2.alloc _).alloc _, by rw [← hhq, Below.heap_alloc _ _ _ (by simp)]; exact heap_alloc_new _ _⟩
            case rest =>
            as_aux_lemma =>
            obtain ⟨rfl, SW2⟩ := hcut
            clear hhq c1 c2 c3 c4 p1 p2 p3 p4 z1 z2 f1
            go_upto_if 60 with (fail)
            obtain ⟨sv, hsv⟩ : ∃ s, s = shr1 prS much al (x1, x2, x3, x4) := ⟨_, rfl⟩
            obtain ⟨s1v, s2v⟩ := sv
            have HSV : Aside ((s1v, s2v) = shr1 prS much al (x1, x2, x3, x4)) := hsv
            have GX : Aside (givV true prS much al (x1, x2, x3, x4) = subV x1 s1v ∧ givB true prS much al (x1, x2, x3, x4) = (s2v && subB x1 s1v)) := by
              rw [givV_subV, givB_subV, ← hsv]
              exact ⟨rfl, rfl⟩
            clear hsv
            go_cut [13] (fun v wc => v = .int .i64 s1v ∧ Aside (Shr B P Z F (some ad) c w0 its z fs (r || !s2v) wc ∧ wc.heap[hq]? = some (.cells #[.int .i64 x1, .int .i64 x2, .int .i64 x3, .int .i64 x4] 48 (0, 0))))
            case first =>
              as_aux_lemma =>
              obtain ⟨_, _, _, p3, p4⟩ := SW2.out.1.cells
              by_cases hw : 0 < x4
              · by_cases hm : 64 ≤ al
                · have E1 : Aside (shr1 prS much al (x1, x2, x3, x4) = (partV much x4 al, partB much x4 al)) := by
                    unfold shr1
                    rw [if_pos (show prS (x1, x2, x3, x4) > 0 from hw), show max al 64 = al by omega]
                    exact rfl
                  go_wp2_with (first | (go_at_call 50; refine (partC _ _ _ _).mono ?_; rintro e w' ⟨rfl, rfl⟩) | (go_at_call 57; refine (ofC P _ _ r _ p3 p4).mono ?_; rintro e w' ⟨rfl, rfl⟩))
                  go_meet
                  case rel =>
                    obtain ⟨e1, e2⟩ := Prod.mk.inj (HSV.out.trans E1.out)
                    rw [e1, e2]
                    exact ⟨rfl, SW2.out.1.setRough _, (heap_setCell_other _ _ _ _ (by simp; omega)).trans SW2.out.2⟩
                · have E1 : Aside (shr1 prS much al (x1, x2, x3, x4) = (partV much x4 64, partB much x4 64)) := by
                    unfold shr1
                    rw [if_pos (show prS (x1, x2, x3, x4) > 0 from hw), show max al 64 = 64 by omega]
                    exact rfl
                  go_wp2_with (first | (go_at_call 50; refine (partC _ _ _ _).mono ?_; rintro e w' ⟨rfl, rfl⟩) | (go_at_call 57; refine (ofC P _ _ r _ p3 p4).mono ?_; rintro e w' ⟨rfl, rfl⟩))
                  go_meet
                  case rel =>
                    obtain ⟨e1, e2⟩ := Prod.mk.inj (HSV.out.trans E1.out)
                    rw [e1, e2]
                    exact ⟨rfl, SW2.out.1.setRough _, (heap_setCell_other _ _ _ _ (by simp; omega)).trans SW2.out.2⟩
              · have E1 : Aside (shr1 prS much al (x1, x2, x3, x4) = (0, true)) := by
                  unfold shr1
                  rw [if_neg (show ¬ prS (x1, x2, x3, x4) > 0 from hw)]
                  exact rfl
                go_wp2
                go_meet
                case rel =>
                  obtain ⟨e1, e2⟩ := Prod.mk.inj (HSV.out.trans E1.out)
                  rw [e1, e2]
                  exact ⟨rfl, by simpa using SW2.out.1, SW2.out.2⟩
            case rest =>
              as_aux_lemma =>
              obtain ⟨rfl, R⟩ := hcut
              clear SW2 HSV
              obtain ⟨_, p1, _, p3, p4⟩ := R.out.1.cells
              rw [D.out.2.1] at p1
              obtain ⟨z1, z2⟩ := R.out.1.zAt j (by rw [D.out.2.1]; exact hlt2)
              have i1 : wc.cell? ⟨hq, 0, none⟩ = some (.int .i64 x1) := (cell_of_row _ _ _ _ _ _ R.out.2).trans rfl
              go_upto_region 16 with (fail)
              have hne2 := hne.out
              have Sx : Aside (Shr B P Z F (some ad) c w0 its (z.set j (subV x1 s1v)) fs (r || !(s2v && subB x1 s1v)) ((wc.setCell ⟨P, 3, none⟩ (.bool ((r || !s2v) || !subB x1 s1v))).setCell ⟨Z, j, none⟩ (.int .i64 (subV x1 s1v)))) := by
                have q := (R.out.1.setRough ((r || !s2v) || !subB x1 s1v)).setZ j (subV x1 s1v)
                rw [Bool.not_and, ← Bool.or_assoc]
                exact q
              have K1 : Aside ((wc.setCell ⟨P, 3, none⟩ (.bool ((r || !s2v) || !subB x1 s1v))).cell? ⟨P, 1, none⟩ = some (.slice (some ⟨Z, 0, none⟩) k k)) := (World.cell?_setCell_other wc _ _ _ (by simp)).trans p1
              have K2 : Aside ((wc.setCell ⟨P, 3, none⟩ (.bool ((r || !s2v) || !subB x1 s1v))).cell? ⟨hq, 0, none⟩ = some (.int .i64 x1)) := (World.cell?_setCell_other wc _ _ _ (by simp)).trans i1
              have K3 : Aside (((wc.setCell ⟨P, 3, none⟩ (.bool ((r || !s2v) || !subB x1 s1v))).setCell ⟨Z, j, none⟩ (.int .i64 (subV x1 s1v))).cell? ⟨P, 1, none⟩ = some (.slice (some ⟨Z, 0, none⟩) k k)) := (World.cell?_setCell_other _ _ _ _ (by intro e; simp only [Addr.mk.injEq] at e; exact hne2.1 e.1.symm)).trans K1.out
              have K4 : Aside (((wc.setCell ⟨P, 3, none⟩ (.bool ((r || !s2v) || !subB x1 s1v))).setCell ⟨Z, j, none⟩ (.int .i64 (subV x1 s1v))).cell? ⟨hq, 0, none⟩ = some (.int .i64 x1)) := (World.cell?_setCell_other _ _ _ _ (by intro e; simp only [Addr.mk.injEq] at e; omega)).trans K2.out
              have z3 : (wc.setCell ⟨P, 3, none⟩ (.bool ((r || !s2v) || !subB x1 s1v))).cell? ⟨Z, j, none⟩ = some (.int .i64 (z.getD j 0)) := (World.cell?_setCell_other _ _ _ _ (by intro e; simp only [Addr.mk.injEq] at e; exact hne2.1 e.1)).trans z1
              obtain ⟨zz2, hzz2⟩ : ∃ q, q = z.getD j 0 := ⟨_, rfl⟩
              rw [← hzz2] at z3 z1
              clear hne2 hzz2
              as_aux_lemma =>
              go_region_held3 (fun w' => w'.cell? ⟨P, 1, none⟩ = some (.slice (some ⟨Z, 0, none⟩) k k) ∧ w'.cell? ⟨hq, 0, none⟩ = some (.int .i64 x1))
                (first | exact ⟨K1.out, K2.out⟩ | exact ⟨K3.out, K4.out⟩ | go_keep)
                (first | (go_at_call 45; refine (subC _ _ _).mono ?_; rintro e w' ⟨rfl, rfl⟩) | (go_at_call 57; refine (ofC P _ _ (r || !s2v) _ ?_ ?_).mono ?_; (simpa using p3); (simpa using p4); rintro e w' ⟨rfl, rfl⟩))
              as_aux_lemma =>
              clear K1 K2 K3 K4 z1 z3 p1 p3 p4 i1
              generalize ((wc.setCell ⟨P, 3, none⟩ (.bool ((r || !s2v) || !subB x1 s1v))).setCell ⟨Z, j, none⟩ (.int .i64 (subV x1 s1v))) = W9 at Sx ⊢
              go_wp2
              go_roundw
              case rel =>
                have h := HX.out
                rw [if_neg (by decide), GX.out.1, GX.out.2] at h
                exact ⟨j + 1, (z.set j (subV x1 s1v), r || !(s2v && subB x1 s1v)), by omega, by go_num, by rw [← h]; exact D.out.1.symm, by simp [D.out.2.1], Sx.out.drew⟩
              case measure => simp [intOf]; omega
          · go_wp2
            go_roundw
            case rel =>
              have h := HX.out
              rw [if_pos rfl] at h
              exact ⟨j + 1, (z, r), by omega, by go_num, by rw [← h]; exact D.out.1.symm, D.out.2.1, D.out.2.2.alloc _⟩
            case measure => simp [intOf]; omega
        · obtain rfl : j = k := by omega
          have hltz2 : ¬ (j : Int) < (j : Int) := by omega
          have E : Aside ((z, r) = s1) := by
            have q := C.out.1
            rw [Nat.sub_self] at q
            exact q
          go_wp2
          go_end0
          rw [← E.out]
          exact ⟨rfl, C.out.2.2⟩
end Go.Proofs.Flx

namespace Go.Proofs.Flx
open Go.RowKit Go.Proofs Go.Proofs.Prt Go.Proofs.YtdifaomkaekglaaW.PrintWords
def szV (n : Int) : Int := if n < 0 then 0 else if n ≤ 1099511627776 then n else 1099511627776
def wtV (n : Int) : Int := if n < 0 then 0 else if n ≤ 6400 then n else 6400
def cntd (x : It) : It := (szV x.1, szV x.2.1, wtV x.2.2.1, wtV x.2.2.2)
theorem sz_a {n : Int} (h : n < 0) : szV n = 0 := if_pos h
theorem sz_b {n : Int} (h : 0 ≤ n) (h2 : n ≤ 1099511627776) : szV n = n := by unfold szV; rw [if_neg (by omega), if_pos h2]
theorem sz_c {n : Int} (h2 : 1099511627776 < n) : szV n = 1099511627776 := by unfold szV; rw [if_neg (by omega), if_neg (by omega)]
theorem szC (n : Int) (w : World) : Calls Try.prog 55 #[.int .i64 n] w fun e w' => e = .returned (.int .i64 (szV n)) ∧ w = w' := by
  by_cases h1 : n < 0
  · rw [sz_a h1]
    go_enter Try.func55, Try.ntmps55
    go_wp2
    go_ret
    exact ⟨rfl, rfl⟩
  · by_cases h2 : n ≤ 1099511627776
    · rw [sz_b (by omega) h2]
      have h3 : 0 ≤ n := by omega
      go_enter Try.func55, Try.ntmps55
      go_wp2
      go_ret
      exact ⟨rfl, rfl⟩
    · rw [sz_c (by omega)]
      have h3 : 0 ≤ n := by omega
      go_enter Try.func55, Try.ntmps55
      go_wp2
      go_ret
      exact ⟨rfl, rfl⟩
theorem wt_a {n : Int} (h : n < 0) : wtV n = 0 := if_pos h
theorem wt_b {n : Int} (h : 0 ≤ n) (h2 : n ≤ 6400) : wtV n = n := by unfold wtV; rw [if_neg (by omega), if_pos h2]
theorem wt_c {n : Int} (h2 : 6400 < n) : wtV n = 6400 := by unfold wtV; rw [if_neg (by omega), if_neg (by omega)]
theorem wtC (n : Int) (w : World) : Calls Try.prog 56 #[.int .i64 n] w fun e w' => e = .returned (.int .i64 (wtV n)) ∧ w = w' := by
  by_cases h1 : n < 0
  · rw [wt_a h1]
    go_enter Try.func56, Try.ntmps56
    go_wp2
    go_ret
    exact ⟨rfl, rfl⟩
  · by_cases h2 : n ≤ 6400
    · rw [wt_b (by omega) h2]
      have h3 : 0 ≤ n := by omega
      go_enter Try.func56, Try.ntmps56
      go_wp2
      go_ret
      exact ⟨rfl, rfl⟩
    · rw [wt_c (by omega)]
      have h3 : 0 ≤ n := by omega
      go_enter Try.func56, Try.ntmps56
      go_wp2
      go_ret
      exact ⟨rfl, rfl⟩
set_option maxHeartbeats 4000000 in
theorem countedC (x : It) (w : World) : Calls Try.prog 33 #[.agg #[.int .i64 x.1, .int .i64 x.2.1, .int .i64 x.2.2.1, .int .i64 x.2.2.2]] w fun e w' =>
    e = .returned (.agg #[.int .i64 (cntd x).1, .int .i64 (cntd x).2.1, .int .i64 (cntd x).2.2.1, .int .i64 (cntd x).2.2.2]) ∧ Below w.heap.size w w' := by
  obtain ⟨a, b, c, d⟩ := x
  simp only [cntd]
  go_enter Try.func33, Try.ntmps33
  go_upto_region 3 with (fail)
  go_region_held3 (fun w' => w'.cell? ⟨w.heap.size, 0, none⟩ = some (.int .i64 a) ∧ w'.cell? ⟨w.heap.size, 1, none⟩ = some (.int .i64 b) ∧ w'.cell? ⟨w.heap.size, 2, none⟩ = some (.int .i64 c) ∧ w'.cell? ⟨w.heap.size, 3, none⟩ = some (.int .i64 d))
    (go_keep)
    (first | (go_at_call 55; refine (szC _ _).mono ?_; rintro e w' ⟨rfl, rfl⟩) | (go_at_call 56; refine (wtC _ _).mono ?_; rintro e w' ⟨rfl, rfl⟩))
  go_wp2
  refine bodyPost_ret (v := .agg #[.int .i64 (szV a), .int .i64 (szV b), .int .i64 (wtV c), .int .i64 (wtV d)]) (by simp [results, Try.results33, go_sem]) rfl ⟨rfl, ?_⟩
  exact (((Below.refl _ _).alloc (Nat.le_refl _) _).alloc (by simp) _).drew
end Go.Proofs.Flx

namespace Go.Proofs.Flx
open Go.RowKit Go.Proofs Go.Proofs.Prt Go.Proofs.YtdifaomkaekglaaW.PrintWords Go.Proofs.YtdifaomkaekglaaW.PrintLast
theorem madeI (n : Nat) : madeCells #[.int .i64 0] n = ints (List.replicate n 0) := by
  apply Array.ext
  · simp [madeCells, ints]
  · intro i h1 h2
    simp [madeCells, ints, Nat.mod_one]
theorem madeB (n : Nat) : madeCells #[.bool false] n = bls (List.replicate n false) := by
  apply Array.ext
  · simp [madeCells, bls]
  · intro i h1 h2
    simp [madeCells, bls, Nat.mod_one]
def ShrE (B P Z F : Nat) (w0 : World) (its : List It) (zs : List Int) (fs : List Bool) (r : Bool) (w : World) : Prop := ∃ A c, Shr B P Z F A c w0 its zs fs r w
theorem share_start (B P Z F n : Nat) (w0 w : World) (hP : w.heap[P]? = some (.cells #[.slice none 0 0, .slice (some ⟨Z, 0, none⟩) n n, .slice (some ⟨F, 0, none⟩) n n, .bool false] 69 (0, 0)))
    (hZ : w.heap[Z]? = some (.cells (madeCells #[.int .i64 0] n) 2 (0, 0))) (hF : w.heap[F]? = some (.cells (madeCells #[.bool false] n) 4 (0, 0))) (bP : B ≤ P) (bZ : B ≤ Z) (bF : B ≤ F) (hb : Below B w0 w) (lt : w0.heap.size = B) :
    ShrE B P Z F w0 [] (List.replicate n 0) (List.replicate n false) false w :=
  ⟨none, 0, { hP := by simpa using hP, hZ := by rw [← madeI]; exact hZ, hF := by rw [← madeB]; exact hF, its := Kd.R_nil _ _ _ _ _, bP := bP, bZ := bZ, bF := bF, below := hb, lt := lt }⟩
theorem alloc3 (w : World) (a b c : Obj) : (((w.alloc a).alloc b).alloc c).drew.heap[w.heap.size]? = some a ∧ (((w.alloc a).alloc b).alloc c).drew.heap[w.heap.size + 1]? = some b ∧ (((w.alloc a).alloc b).alloc c).drew.heap[w.heap.size + 1 + 1]? = some c ∧ Below w.heap.size w (((w.alloc a).alloc b).alloc c).drew := by
  have e1 : (w.alloc a).heap.size = w.heap.size + 1 := Array.size_push _
  have e2 : ((w.alloc a).alloc b).heap.size = w.heap.size + 1 + 1 := by rw [← e1]; exact Array.size_push _
  refine ⟨?_, ?_, ?_, ((((Below.refl _ _).alloc (Nat.le_refl _) _).alloc (by omega) _).alloc (by omega) _).drew⟩
  · rw [heap_drew, Below.heap_alloc _ _ _ (by omega), Below.heap_alloc _ _ _ (by omega)]; exact heap_alloc_new _ _
  · rw [heap_drew, Below.heap_alloc _ _ _ (by omega), ← e1]; exact heap_alloc_new _ _
  · rw [heap_drew, ← e2]; exact heap_alloc_new _ _
theorem kIt_mkM (w : World) (base : Nat) (ok : Nat → Prop) (x : It) : kIt.M w base ok x [.int .i64 x.1, .int .i64 x.2.1, .int .i64 x.2.2.1, .int .i64 x.2.2.2] :=
  ⟨[.int .i64 x.1], [.int .i64 x.2.1, .int .i64 x.2.2.1, .int .i64 x.2.2.2], rfl, rfl, ⟨[.int .i64 x.2.1], [.int .i64 x.2.2.1, .int .i64 x.2.2.2], rfl, rfl, ⟨[.int .i64 x.2.2.1], [.int .i64 x.2.2.2], rfl, rfl, rfl⟩⟩⟩
theorem flx_info4 : (Try.prog.info? 4).map (fun i => (i.zero, i.size, i.bytes)) = some (some (.bool false), 1, 1) := by kernel_rfl
theorem kIt_any {w w' : World} {base base' : Nat} {ok ok' : Nat → Prop} {x : It} {cs : List Value} (h : kIt.M w base ok x cs) : kIt.M w' base' ok' x cs := by
  obtain ⟨_, _, rfl, rfl, ⟨_, _, rfl, rfl, ⟨_, _, rfl, rfl, rfl⟩⟩⟩ := h
  exact kIt_mkM _ _ _ _
theorem flx_info48 : (Try.prog.info? 48).map (fun i => (i.zero, i.size, i.bytes)) = some (some (.agg #[.int .i64 0, .int .i64 0, .int .i64 0, .int .i64 0]), 4, 32) := by kernel_rfl
theorem not_own {w : World} {base n : Nat} {e : TypeId} {size : Nat} {v : Value} {xs : List Value} (h : w.ownsRow base e size v n xs) {g : Nat} {cells : Array Value} {t : TypeId} (hb : w.heap[g]? = some (.cells cells t (0, 0))) (hne : e ≠ t) : some g ≠ v.ownBlock := by
  intro hk
  obtain ⟨cs, hc⟩ := own_typed h g hk.symm
  rw [hb] at hc
  injection hc with hc
  injection hc with _ ht
  exact hne ht.symm
theorem share_step {B P Z F cc k gg cap : Nat} {A2 : Option Addr} {w0 wc W w3 : World} {its : List It} {zs : List Int} {fs : List Bool} {r : Bool} {inner : List Value} {ok : Nat → Prop} (S : Shr B P Z F A2 cc w0 its zs fs r wc) (hk : its.length = k) (hbW : Below wc.heap.size wc W) (y : It)
    (hrep : Reps (kIt.M wc B ok) 4 its inner) (hown : w3.ownsRow B 48 4 (.slice (some ⟨gg, 0, none⟩) (k + 1) cap) (k + 1) (inner ++ [.int .i64 y.1, .int .i64 y.2.1, .int .i64 y.2.2.1, .int .i64 y.2.2.2])) (hg : W.grownBy w3 (Value.slice A2 k cc).ownBlock)
    (hat : (Value.slice A2 k cc).ownBlock = some gg ∨ W.heap.size ≤ gg) : ShrE B P Z F w0 (its ++ [y]) zs fs r (w3.setCell ⟨P, 0, none⟩ (.slice (some ⟨gg, 0, none⟩) (k + 1) cap)) := by
  obtain ⟨inn, ho⟩ := Kd.R_own S.its
  rw [hk] at ho
  have lP := lt_get S.hP
  have lZ := lt_get S.hZ
  have lF := lt_get S.hF
  have sz := hbW.size
  have hP := (hg.block P (by omega) (not_own ho S.hP (by decide))).trans ((hbW.block P lP).trans S.hP)
  have hZ := (hg.block Z (by omega) (not_own ho S.hZ (by decide))).trans ((hbW.block Z lZ).trans S.hZ)
  have hF := (hg.block F (by omega) (not_own ho S.hF (by decide))).trans ((hbW.block F lF).trans S.hF)
  have hR : kIt.R 48 w3 B (fun _ => True) (.slice (some ⟨gg, 0, none⟩) (k + 1) cap) (its ++ [y]) := by
    refine Kd.R_appended (d := kIt) (okp := fun _ => False) (W := W) (v := .slice A2 k cc) (inner := inner) (fun _ _ => trivial) (Reps.imp_ hrep (fun _ _ hp => kIt_any hp)) (kIt_mkM W B _ y) (fun _ h => h.elim) (fun _ _ => trivial) (by rw [hk]; exact hown) hg ?_
    rcases hat with hat | hat
    · exact Or.inl (by rw [hat]; rfl)
    · exact Or.inr ⟨gg, rfl, hat⟩
  have hl : (its ++ [y]).length = k + 1 := by simp [hk]
  refine ⟨some ⟨gg, 0, none⟩, cap, { hP := ?_, hZ := ?_, hF := ?_, its := ?_, bP := S.bP, bZ := S.bZ, bF := S.bF, below := ?_, lt := S.lt }⟩
  · rw [hl]
    exact heap_setCell_same _ _ 0 _ _ _ hP
  · exact (heap_setCell_other _ _ _ _ (Ne.symm S.PZ)).trans hZ
  · exact (heap_setCell_other _ _ _ _ (Ne.symm S.PF)).trans hF
  · rw [hl]
    exact Kd.R_set hR hP (by simp [kIt, Kd.pair, Kd.int, Kd.scalar]) 0 _
  · have hb1 : Below B w0 W := S.below.trans (hbW.mono (by have := S.below.size; have := S.lt; omega))
    exact (hb1.grown hg (by have := S.below.size; have := S.lt; omega) (own_base ho)).setCell S.bP _
def shareL (its : List It) (room : Int) : Nat → List Int → List Bool → Bool → Option (List Int × Bool)
  | 0, _, _, _ => none
  | k + 1, zs, fs, r =>
    if 0 ≤ restV its zs fs room then
      some ((givN false prG (restV its zs fs room) (allTo prG its fs its.length) its fs its.length 0 (zs, r || !restB its zs fs room)).1, !(givN false prG (restV its zs fs room) (allTo prG its fs its.length) its fs its.length 0 (zs, r || !restB its zs fs room)).2)
    else
      let g := givN true prS (-restV its zs fs room) (allTo prS its fs its.length) its fs its.length 0 (zs, r || !restB its zs fs room)
      let f := frzN g.1.length 0 (g.1, fs, false)
      if f.2.2 = true then shareL its room k f.1 f.2.1 g.2 else some (f.1, !g.2)
theorem shr_end {B P Z F c : Nat} {A : Option Addr} {w0 w : World} {its : List It} {zs : List Int} {fs : List Bool} {r : Bool} (h : Shr B P Z F A c w0 its zs fs r w) (hn : zs.length ≤ 100) : Kd.R (Kd.int .i64) 2 w B (fun _ => True) (.slice (some ⟨Z, 0, none⟩) zs.length zs.length) zs := by
  refine Kd.R_of_own (enc := Value.int .i64) ⟨by simp [encs], .inr ⟨Z, zs.length, ints zs, rfl, h.bZ, h.hZ, Nat.le_refl _, by simp only [maxLen]; omega, by simp [ints], ?_⟩⟩ (fun _ _ => trivial)
  simp [ints, encs, List.take_of_length_le]
theorem givN_len (less : Bool) (pr : It → Int) (much all : Int) (its : List It) (fs : List Bool) : ∀ d i s, (givN less pr much all its fs d i s).1.length = s.1.length
  | 0, _, _ => rfl
  | d + 1, i, s => by
    rw [givN, givN_len less pr much all its fs d (i + 1)]
    unfold giv
    split <;> simp
theorem frzN_len : ∀ d i s, (frzN d i s).1.length = s.1.length ∧ (frzN d i s).2.1.length = s.2.1.length
  | 0, _, _ => ⟨rfl, rfl⟩
  | d + 1, i, s => by
    have h := frzN_len d (i + 1) (frz i s)
    have g := frz_len i s
    rw [frzN]
    exact ⟨h.1.trans g.1, h.2.trans g.2⟩
theorem cntd_bd (l : List It) (i : Nat) : (0 ≤ prG ((l.map cntd).getD i zIt) ∧ prG ((l.map cntd).getD i zIt) ≤ 6400) ∧ (0 ≤ prS ((l.map cntd).getD i zIt) ∧ prS ((l.map cntd).getD i zIt) ≤ 6400) := by
  have hw : ∀ n, 0 ≤ wtV n ∧ wtV n ≤ 6400 := fun n => by unfold wtV; split <;> (try split) <;> omega
  by_cases h : i < l.length
  · simp only [List.getD, List.getElem?_map, List.getElem?_eq_getElem h, Option.map_some, Option.getD_some, prG, prS, cntd]
    exact ⟨hw _, hw _⟩
  · simp [List.getD, List.getElem?_eq_none (show l.length ≤ i by omega), prG, prS, zIt]
theorem ShrE.drew {B P Z F : Nat} {w0 w : World} {its : List It} {zs : List Int} {fs : List Bool} {r : Bool} (h : ShrE B P Z F w0 its zs fs r w) : ShrE B P Z F w0 its zs fs r w.drew := by
  obtain ⟨A, c, h⟩ := h
  exact ⟨A, c, h.drew⟩
end Go.Proofs.Flx
