/- Contracts of functions of the given program and of Go's library, proved by walking their text, and plain lemmas (part G); no condition beside those that each theorem states. -/
import Derived.Test.YtdifaomkaekglaaFF
import Derived.Lib.Hide
import Derived.Deep.QuietTactic
import Derived.BigQuiet
import Derived.Deep.AppendLies
import Derived.Deep.RegionLaw
import Derived.Test.YtdifaomkaekglaaWLast
set_option linter.unusedVariables false
set_option linter.unusedSimpArgs false
namespace Go.Proofs.Flx
open Go.RowKit Go.Proofs Go.Proofs.Prt Go.Proofs.YtdifaomkaekglaaW.PrintWords Go.Proofs.YtdifaomkaekglaaW.PrintLast
def SharePost (r1 : List Int) (r2 : Bool) (w : World) (e : Ending) (w' : World) : Prop :=
  ∃ v, e = .returned (.tuple #[v, .bool r2]) ∧ Kd.R (Kd.int .i64) 2 w' w.heap.size (fun _ => True) v r1 ∧ Below w.heap.size w w'
set_option maxHeartbeats 8000000 in
set_option maxRecDepth 100000 in
theorem shareC (kq : Nat) (l : List It) (A : Option Addr) (c : Nat) (room : Int) (w : World) (hr : Kd.C kIt w A l.length l) (hn : l.length ≤ 100) (r1 : List Int) (r2 : Bool) (hs : shareL (l.map cntd) room kq (List.replicate l.length 0) (List.replicate l.length false) false = some (r1, r2)) :
    Calls Try.prog 15 #[.slice A l.length c, .int .i64 room] w (SharePost r1 r2 w) := by
  obtain ⟨n, en⟩ : ∃ n, n = l.length := ⟨_, rfl⟩
  have HR : Aside (n = l.length ∧ Kd.C kIt w A l.length l) := ⟨en, hr⟩
  rw [← en] at hn hs ⊢
  have HS : Aside (shareL (l.map cntd) room kq (List.replicate n 0) (List.replicate n false) false = some (r1, r2)) := hs
  clear hr en hs
  have hm2 := fun w1 => run_make_row' (P := Try.prog) 28 2 (.int .i64 0) 8 Try.underlying28 flx_info2 rfl .i64 .i64 n (by omega) (by omega) w1
  have hm4 := fun w1 => run_make_row' (P := Try.prog) 67 4 (.bool false) 1 Try.underlying67 flx_info4 rfl .i64 .i64 n (by omega) (by omega) w1
  have hn' : ¬ (n : Int) > 100 := by omega
  go_enter Try.func15, Try.ntmps15
  go_upto_region 3 with (fail)
  go_cut [6] (fun v wc => ∃ P Z F, v = .pointer (some ⟨P, 0, none⟩) ∧ Aside (ShrE w.heap.size P Z F w [] (List.replicate n 0) (List.replicate n false) false wc))
  case first =>
    as_aux_lemma =>
    go_region
    all_goals go_wp2
    all_goals go_meet
    case rel =>
      obtain ⟨a1, a2, a3, a4⟩ := alloc3 w (Obj.cells (madeCells #[Value.int IntKind.i64 0] n) 2) (Obj.cells (madeCells #[Value.bool false] n) 4) (Obj.cells #[Value.slice none 0 0, Value.slice (some ⟨w.heap.size, 0, none⟩) n n, Value.slice (some ⟨w.heap.size + 1, 0, none⟩) n n, Value.bool false] 69)
      exact ⟨_, w.heap.size, w.heap.size + 1, rfl, share_start _ _ _ _ n w _ a3 a1 a2 (by omega) (by omega) (by omega) a4 rfl⟩
    case rel =>
      obtain ⟨a1, a2, a3, a4⟩ := alloc3 w (Obj.cells (madeCells #[Value.bool false] n) 4) (Obj.cells (madeCells #[Value.int IntKind.i64 0] n) 2) (Obj.cells #[Value.slice none 0 0, Value.slice (some ⟨w.heap.size + 1, 0, none⟩) n n, Value.slice (some ⟨w.heap.size, 0, none⟩) n n, Value.bool false] 69)
      exact ⟨_, w.heap.size + 1, w.heap.size, rfl, share_start _ _ _ _ n w _ a3 a2 a1 (by omega) (by omega) (by omega) a4 rfl⟩
  case rest =>
    as_aux_lemma =>
    obtain ⟨P, Z, F, rfl, S0⟩ := hcut
    clear hm2 hm4
    go_wp2
    go_loopw [23] (fun i wr => ∃ k : Nat, k ≤ n ∧ i = .int .i64 k ∧ Aside (ShrE w.heap.size P Z F w ((l.take k).map cntd) (List.replicate n 0) (List.replicate n false) false wr)) (fun i _ => n - (intOf i).toNat)
    case atStart => exact ⟨0, Nat.zero_le _, rfl, S0.out⟩
    case round =>
      as_aux_lemma =>
      clear S0
      obtain ⟨k, hk, rfl, C⟩ := hrel
      by_cases hlt : k < n
      · have hltz : (k : Int) < (n : Int) := by omega
        obtain ⟨A2, cc, S⟩ := C.out
        have hPl := lt_get S.hP
        have S1 : Aside (Shr w.heap.size P Z F A2 cc w ((l.take k).map cntd) (List.replicate n 0) (List.replicate n false) false wr) := S
        have hrr := Kd.C_below HR.out.2 (S.below.mono (Nat.le_refl _))
        rw [← HR.out.1] at hrr
        obtain ⟨ad, rfl, c1, c2, c3, c4⟩ := kIt_at hrr k hlt
        obtain ⟨p0, _, _, _, _⟩ := S.cells
        have hk2 : ((l.take k).map cntd).length = k := by have := HR.out.1; simp; omega
        obtain ⟨its, hits⟩ : ∃ its, its = (l.take k).map cntd := ⟨_, rfl⟩
        rw [← hits] at p0 S1 hk2
        rw [hk2] at p0
        obtain ⟨x, hx⟩ : ∃ x, x = l.getD k zIt := ⟨_, rfl⟩
        rw [← hx] at c1 c2 c3 c4
        have OWN0 : Aside (∀ g, (Value.slice A2 k cc).ownBlock = some g → g < wr.heap.size) := fun g e => by
          obtain ⟨inner, ho⟩ := Kd.R_own S1.out.its
          rw [hk2] at ho
          exact own_lt ho g e
        have HX : Aside (its ++ [cntd x] = (l.take (k + 1)).map cntd ∧ its.length = k) := by
          have hl : k < l.length := by have := HR.out.1; omega
          refine ⟨?_, hk2⟩
          rw [hits, hx, List.take_succ_eq_append_getElem hl, List.map_append]
          simp [List.getD, hl]
        clear hits hx hrr C S hk2
        obtain ⟨x1, x2, x3, x4⟩ := x
        simp only at c1 c2 c3 c4
        obtain ⟨hq, hhq⟩ : ∃ h, wr.heap.size = h := ⟨_, rfl⟩
        have hPq : P < hq := by omega
        rw [hhq] at OWN0
        go_upto_region 6 with (fail)
        go_cut [8] (fun v wc => v = .pointer (some ⟨hq, 0, none⟩) ∧ Aside (Shr w.heap.size P Z F A2 cc w its (List.replicate n 0) (List.replicate n false) false wc ∧ wc.heap[hq]? = some (.cells #[.int .i64 x1, .int .i64 x2, .int .i64 x3, .int .i64 x4] 48 (0, 0))))
        case first =>
          as_aux_lemma =>
          go_wp2
          go_meet
          case rel => exact ⟨rfl, S1.out.alloc _, by rw [← hhq]; exact heap_alloc_new _ _⟩
        case rest =>
          as_aux_lemma =>
          obtain ⟨rfl, S2⟩ := hcut
          clear p0 c1 c2 c3 c4 hhq hPl
          go_upto_region 7 with (fail)
          obtain ⟨p0, _, _, _, _⟩ := S2.out.1.cells
          rw [HX.out.2] at p0
          have i0 : wc.cell? ⟨hq, 0, none⟩ = some (.int .i64 x1) := (cell_of_row _ _ _ _ _ _ S2.out.2).trans rfl
          have i1 : wc.cell? ⟨hq, 1, none⟩ = some (.int .i64 x2) := (cell_of_row _ _ _ _ _ _ S2.out.2).trans rfl
          have i2 : wc.cell? ⟨hq, 2, none⟩ = some (.int .i64 x3) := (cell_of_row _ _ _ _ _ _ S2.out.2).trans rfl
          have i3 : wc.cell? ⟨hq, 3, none⟩ = some (.int .i64 x4) := (cell_of_row _ _ _ _ _ _ S2.out.2).trans rfl
          have hql := lt_get S2.out.2
          have hPl := lt_get S2.out.1.hP
          obtain ⟨hA, inner, hown, hrep⟩ := S2.out.1.its
          rw [HX.out.2] at hown
          have OW : Aside (wc.ownsRow w.heap.size 48 4 (.slice A2 k cc) k inner ∧ Reps (kIt.M wc w.heap.size (fun q => True ∧ some q ≠ (Value.slice A2 its.length cc).ownBlock)) 4 its inner) := ⟨hown, hrep⟩
          have NE : Aside (some P ≠ (Value.slice A2 k cc).ownBlock ∧ some hq ≠ (Value.slice A2 k cc).ownBlock) := by
            refine ⟨fun e => ?_, fun e => ?_⟩
            · obtain ⟨cs, hc⟩ := own_typed hown P e.symm
              rw [S2.out.1.hP] at hc
              injection hc with hc
              injection hc with _ hc
              exact absurd hc (by decide)
            · exact absurd (OWN0.out hq e.symm) (Nat.lt_irrefl _)
          have hBw : w.heap.size ≤ wc.heap.size := S2.out.1.below.size
          have FZ : Aside (∀ w2, Below wc.drew.heap.size wc.drew w2 → ∀ o, (w2.alloc o).drew.frozen? ⟨P, 0, none⟩ = false) := fun w2 hb o => by
            have h1 : w2.heap[P]? = wc.heap[P]? := hb.block P hPl
            exact frozen_of_row _ _ _ _ _ (show (w2.alloc o).heap[P]? = _ from (Below.heap_alloc w2 o P (by have h2 : wc.heap.size ≤ w2.heap.size := hb.size; omega)).trans (h1.trans S2.out.1.hP))
          clear hA hown hrep
          obtain ⟨ii, hi0, hz0, hz1, hz2⟩ := info_parts flx_info48
          obtain ⟨⟨y1, y2, y3, y4⟩, hy⟩ : ∃ y, y = cntd (x1, x2, x3, x4) := ⟨_, rfl⟩
          have HY : Aside ((y1, y2, y3, y4) = cntd (x1, x2, x3, x4)) := hy
          have CT : Aside (∀ w, Calls Try.prog 33 #[.agg #[.int .i64 x1, .int .i64 x2, .int .i64 x3, .int .i64 x4]] w fun e w' => e = .returned (.agg #[.int .i64 y1, .int .i64 y2, .int .i64 y3, .int .i64 y4]) ∧ Below w.heap.size w w') := fun w => by
            have h := countedC (x1, x2, x3, x4) w
            rw [← hy] at h
            exact h
          clear hy
          go_region_law (first
            | (refine goes_ (f := 33) Try.func33 (by kernel_rfl) rfl #[.agg #[.int .i64 x1, .int .i64 x2, .int .i64 x3, .int .i64 x4]] (by simp [Region.wanted]) rfl rfl (by (try simp only [List.map_toArray, List.map_cons, List.map_nil]); first | done | rfl) ?_; refine (CT.out _).mono ?_; rintro e w2 ⟨rfl, hb2⟩; refine ⟨_, rfl, ?_⟩; have pc : w2.cell? ⟨P, 0, none⟩ = some (.slice A2 k cc) := (hb2.cell (p := ⟨P, 0, none⟩) hPl).trans p0; have h2 : wc.heap.size ≤ w2.heap.size := hb2.size; have hP2 : P < w2.heap.size := Nat.lt_of_lt_of_le hPl h2)
            | (refine step_append_lies _ rfl _ _ _ (by rfl) w.heap.size 48 ii _ 4 32 Try.underlying34 hi0 hz0 hz1 hz2 rfl (by omega) (.slice A2 k cc) k inner (by rfl) ((pw_own_below OW.out.1.drew hb2).alloc _)
                  ⟨w2.heap.size, 0, none⟩ 1 1 [.int .i64 y1, .int .i64 y2, .int .i64 y3, .int .i64 y4] (by rfl) (by rfl) (World.news_of_block (cs := #[.int .i64 y1, .int .i64 y2, .int .i64 y3, .int .i64 y4]) (t := 48) (fr := (0, 0)) (heap_alloc_new w2 _)) (by simp [Value.oneCell'])
                  (by omega) (by simp [maxLen]; omega) (by omega) (by simp; omega) (w2.heap.size + 1) (by simp) ?_; intro gg cap w3 hown3 hgrow3 hat3 hlt3; have hfz : w3.frozen? ⟨P, 0, none⟩ = false := (hgrow3.frozen_far _ (by simp; omega) NE.out.1).trans (FZ.out w2 hb2 _); have pc3 : w3.cell? ⟨P, 0, none⟩ = some (.slice A2 k cc) := (hgrow3.cell_far _ (by simp; omega) NE.out.1).trans ((Below.cell ((Below.refl _ w2).alloc (Nat.le_refl _) _) (p := ⟨P, 0, none⟩) (by simp; omega)).trans pc)))
          all_goals
            as_aux_lemma =>
            have SS : Aside (ShrE w.heap.size P Z F w (its ++ [cntd (x1, x2, x3, x4)]) (List.replicate n 0) (List.replicate n false) false (w3.setCell ⟨P, 0, none⟩ (.slice (some ⟨gg, 0, none⟩) (k + 1) cap))) := by
              rw [← HY.out]
              exact share_step S2.out.1 HX.out.2 ((⟨hb2.os, hb2.tape, hb2.output, hb2.size, hb2.block⟩ : Below wc.heap.size wc w2).alloc hb2.size _) (y1, y2, y3, y4) OW.out.2 hown3 hgrow3 (hat3.imp id (fun h => by rw [h]; simp))
            clear pc3 hfz hgrow3 hown3 hat3 pc hP2 hb2 i0 i1 i2 i3 p0
            generalize w3.setCell ⟨P, 0, none⟩ (.slice (some ⟨gg, 0, none⟩) (k + 1) cap) = W9 at SS ⊢
            go_wp2
            go_roundw
            case rel => exact ⟨k + 1, by omega, by go_num, by rw [← HX.out.1]; first | exact SS.out | exact SS.out.drew | exact SS.out.drew.drew⟩
            case measure => simp [intOf]; omega
      · obtain rfl : k = n := by omega
        have hltz : ¬ (k : Int) < (k : Int) := by omega
        have S1 : Aside (ShrE w.heap.size P Z F w (l.map cntd) (List.replicate k 0) (List.replicate k false) false wr) := by
          have q := C.out
          rw [HR.out.1, List.take_length] at q
          rw [HR.out.1]
          exact q
        have HL : Aside ((l.map cntd).length = k) := by rw [List.length_map]; exact HR.out.1.symm
        have BD : Aside (∀ i, (0 ≤ prG ((l.map cntd).getD i zIt) ∧ prG ((l.map cntd).getD i zIt) ≤ 6400) ∧ (0 ≤ prS ((l.map cntd).getD i zIt) ∧ prS ((l.map cntd).getD i zIt) ≤ 6400)) := cntd_bd l
        obtain ⟨its, hits⟩ : ∃ its, its = l.map cntd := ⟨_, rfl⟩
        rw [← hits] at S1 HL BD HS
        clear hits C hltz
        go_wp2
        go_loopg [9] kq (fun g v9 wr2 => ∃ (zs : List Int) (fs : List Bool) (r : Bool), Aside (ShrE w.heap.size P Z F w its zs fs r wr2 ∧ zs.length = k ∧ fs.length = k ∧ shareL its room g zs fs r = some (r1, r2)))
        case atStart => exact ⟨List.replicate k 0, List.replicate k false, false, S1.out, by simp, by simp, HS.out⟩
        case round =>
          as_aux_lemma =>
          clear S1 HS
          obtain ⟨zs, fs, r, C⟩ := hrel
          obtain ⟨g, eg⟩ : ∃ g, gk = g + 1 := by
            cases gk with
            | zero => exact absurd C.out.2.2.2 (by simp [shareL])
            | succ g => exact ⟨g, rfl⟩
          subst eg
          obtain ⟨A2, cc, S⟩ := C.out.1
          have L1 : its.length = k := HL.out
          have L2 : zs.length = k := C.out.2.1
          have L3 : fs.length = k := C.out.2.2.1
          have hRC := restC w.heap.size P Z F cc A2 w _ its zs fs r room S (by omega) (by omega) (by omega)
          have hSL := C.out.2.2.2
          rw [shareL] at hSL
          have hbd := clampV_bd (clampV room - clampV (sumV (partsTo its zs fs its.length)))
          obtain ⟨rv, hrv⟩ : ∃ v, v = restV its zs fs room := ⟨_, rfl⟩
          obtain ⟨rb, hrb⟩ : ∃ v, v = (r || !restB its zs fs room) := ⟨_, rfl⟩
          have hbd2 : -1099511627776 ≤ rv ∧ rv ≤ 1099511627776 := by rw [hrv]; exact hbd
          rw [← hrv, ← hrb] at hRC hSL
          clear hbd
          have HRC := Lib.hid hRC
          clear hRC hrv hrb
          by_cases h0 : 0 ≤ rv
          · rw [if_pos h0] at hSL
            obtain ⟨⟨zs1, rb1⟩, hg⟩ : ∃ s, s = givN false prG rv (allTo prG its fs its.length) its fs its.length 0 (zs, rb) := ⟨_, rfl⟩
            rw [← hg] at hSL
            have hl1 : zs1.length = k := by
              have q := congrArg (fun s : List Int × Bool => s.1.length) hg
              simp only [givN_len] at q
              exact q.trans L2
            have HG : Aside (∀ w2, Shr w.heap.size P Z F A2 cc w its zs fs rb w2 → Calls Try.prog 35 #[.pointer (some ⟨P, 0, none⟩), .int .i64 rv, .bool false, .func (.func 36) #[] #[]] w2 fun e w' => e = .returned (.tuple #[]) ∧ Shr w.heap.size P Z F A2 cc w its zs1 fs rb1 w') := fun w2 s => by
              have q := giveGC w.heap.size P Z F cc A2 w w2 its zs fs rb rv s (by omega) (by omega) (by omega) (fun i => (BD.out i).1)
              rw [← hg] at q
              exact q
            have E1 : Aside (zs1 = r1 ∧ (!rb1) = r2) := by
              injection hSL with q
              exact Prod.mk.inj q
            clear hg hSL S C
            have LL : Aside (its.length = k ∧ zs.length = k ∧ fs.length = k ∧ zs1.length = k) := ⟨L1, L2, L3, hl1⟩
            clear L1 L2 L3 hl1
            go_wp2_with (go_at_call 34; refine HRC.out.mono ?_; rintro e w2 ⟨rfl, S2⟩)
            refine (HG.out _ S2).mono ?_
            rintro e w3 ⟨rfl, S3⟩
            have S4 : Aside _ := S3
            clear S2 S3
            obtain ⟨_, p1, _, p3, _⟩ := S4.out.cells
            rw [LL.out.2.2.2] at p1
            go_wp2_with fail
            go_quiet (fail)
            go_wp2
            go_ret2
            obtain ⟨e1, e2⟩ := E1.out
            have hr1 := shr_end S4.out (by rw [LL.out.2.2.2]; exact hn)
            rw [LL.out.2.2.2, e1] at hr1
            refine ⟨_, by rw [← e2]; rfl, ?_, ?_⟩
            · first | exact hr1 | exact Kd.R_drewN hr1 _
            · first | exact S4.out.below | exact pw_below_drewN S4.out.below _
          · rw [if_neg h0] at hSL
            obtain ⟨⟨zs1, rb1⟩, hg⟩ : ∃ s, s = givN true prS (-rv) (allTo prS its fs its.length) its fs its.length 0 (zs, rb) := ⟨_, rfl⟩
            simp only [← hg] at hSL
            have hl1 : zs1.length = k := by
              have q := congrArg (fun s : List Int × Bool => s.1.length) hg
              simp only [givN_len] at q
              exact q.trans L2
            have HG : Aside (∀ w2, Shr w.heap.size P Z F A2 cc w its zs fs rb w2 → Calls Try.prog 35 #[.pointer (some ⟨P, 0, none⟩), .int .i64 (-rv), .bool true, .func (.func 37) #[] #[]] w2 fun e w' => e = .returned (.tuple #[]) ∧ Shr w.heap.size P Z F A2 cc w its zs1 fs rb1 w') := fun w2 s => by
              have q := giveSC w.heap.size P Z F cc A2 w w2 its zs fs rb (-rv) s (by omega) (by omega) (by omega) (fun i => (BD.out i).2)
              rw [← hg] at q
              exact q
            obtain ⟨⟨zs2, fs2, b2⟩, hf⟩ : ∃ s, s = frzN zs1.length 0 (zs1, fs, false) := ⟨_, rfl⟩
            simp only [← hf] at hSL
            have hfl := frzN_len zs1.length 0 (zs1, fs, false)
            rw [← hf] at hfl
            simp only at hfl
            have HF : Aside (∀ w2, Shr w.heap.size P Z F A2 cc w its zs1 fs rb1 w2 → Calls Try.prog 38 #[.pointer (some ⟨P, 0, none⟩)] w2 fun e w' => e = .returned (.bool b2) ∧ Shr w.heap.size P Z F A2 cc w its zs2 fs2 rb1 w') := fun w2 s => by
              have q := freezeC w.heap.size P Z F cc A2 w w2 its zs1 fs rb1 s (by omega) (by omega)
              rw [← hf] at q
              exact q
            have LL : Aside (its.length = k ∧ zs2.length = k ∧ fs2.length = k) := ⟨L1, hfl.1.trans hl1, hfl.2.trans L3⟩
            have E1 : Aside ((b2 = true → shareL its room g zs2 fs2 rb1 = some (r1, r2)) ∧ (b2 = false → zs2 = r1 ∧ (!rb1) = r2)) := by
              refine ⟨fun q => by rw [if_pos q] at hSL; exact hSL, fun q => ?_⟩
              rw [if_neg (by rw [q]; decide)] at hSL
              injection hSL with q2
              exact Prod.mk.inj q2
            clear hg hSL S C hf hfl hl1 L1 L2 L3
            go_wp2_with (go_at_call 34; refine HRC.out.mono ?_; rintro e w2 ⟨rfl, S2⟩)
            refine (HG.out _ S2).mono ?_
            rintro e w3 ⟨rfl, S3⟩
            clear S2
            cases b2 with
            | true =>
              go_wp2_with (go_at_call 38; refine (HF.out _ S3).mono ?_; rintro e w4 ⟨rfl, S4⟩)
              go_roundg g
              case measure => omega
              case rel => exact ⟨zs2, fs2, rb1, ⟨A2, cc, S4⟩, LL.out.2.1, LL.out.2.2, E1.out.1 (by first | rfl | trivial)⟩
            | false =>
              go_wp2_with (go_at_call 38; refine (HF.out _ S3).mono ?_; rintro e w4 ⟨rfl, S4⟩)
              have S5 : Aside _ := S4
              clear S3 S4
              obtain ⟨_, p1, _, p3, _⟩ := S5.out.cells
              rw [LL.out.2.1] at p1
              go_quiet (fail)
              go_wp2
              go_ret2
              obtain ⟨e1, e2⟩ := E1.out.2 (by first | rfl | trivial)
              have hr1 := shr_end S5.out (by rw [LL.out.2.1]; exact hn)
              rw [LL.out.2.1, e1] at hr1
              refine ⟨_, by rw [← e2]; rfl, ?_, ?_⟩
              · first | exact hr1 | exact Kd.R_drewN hr1 _
              · first | exact S5.out.below | exact pw_below_drewN S5.out.below _
end Go.Proofs.Flx

namespace Go.Proofs.Flx
open Go.RowKit Go.Proofs Go.Proofs.Prt Go.Proofs.YtdifaomkaekglaaW.PrintWords
theorem C_iso {α β : Type} {d : Kd α} {f : β → α} {w : World} {A : Option Addr} {n : Nat} {xs : List β} (h : Kd.C (Kd.iso d f) w A n xs) : Kd.C d w A n (xs.map f) := by
  obtain ⟨h1, h2, h3⟩ := h
  refine ⟨by rw [List.length_map]; exact h1, h2, fun hn => ?_⟩
  obtain ⟨ad, e, hc⟩ := h3 hn
  refine ⟨ad, e, fun j p hj => ?_⟩
  rw [List.getElem?_map] at hj
  obtain ⟨x, hx, rfl⟩ := Option.map_eq_some_iff.1 hj
  exact hc j x hx
theorem shareL_mono (its : List It) (room : Int) : ∀ k zs fs r, LeO (shareL its room k zs fs r) (shareL its room (k + 1) zs fs r)
  | 0, _, _, _ => fun r h => by simp [shareL] at h
  | k + 1, zs, fs, r => by
    rw [shareL, shareL]
    refine LeO.ite (LeO.refl _) ?_
    refine LeO.ite (shareL_mono its room k _ _ _) (LeO.refl _)
theorem shareManyC (n : Nat) (A : Option Addr) (c : Nat) (room : Int) (w : World) (hn : 100 < n) (hn2 : n ≤ 9223372036854775807) :
    Calls Try.prog 15 #[.slice A n c, .int .i64 room] w fun e w' => e = .returned (.tuple #[.slice none 0 0, .bool false]) ∧ w = w' := by
  have h : (n : Int) > 100 := by omega
  go_enter Try.func15, Try.ntmps15
  go_wp2
  go_ret2
  exact ⟨rfl, rfl⟩
end Go.Proofs.Flx
