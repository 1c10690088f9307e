/- SheetSides, one part of its walk; no condition beside those that the theorem states. -/
import Derived.Test.YtolfpgccebdlpaaGreatDoorHT6
set_option linter.unusedVariables false
set_option linter.unusedSimpArgs false
namespace Go.Proofs.YtolfpgccebdlpaaGreatDoor.Shw
open Go.RowKit Go.Lib Go.Proofs.Sht Go.Proofs.YtolfpgccebdlpaaGreatDoor.HT Go.Proofs.YtolfpgccebdlpaaGreatDoorW.PrintWords Go.Proofs.YtolfpgccebdlpaaGreatDoorW.PrintLast Go.Proofs.YtolfpgccebdlpaaGreatDoorW.PrintMore
set_option maxHeartbeats 100000000 in
set_option maxRecDepth 400000 in
theorem sidesq (n0 n1 n2 n3 : Int) (m : Nat) (hm : m = 3 ∨ m = 4) (K : Nat) (w : World) (hE : Sht.Env w) (hA : scrimlaw10_awake.f K = some true)
  (hfin : (∀ j, j < 4 → 0 ≤ nv n0 n1 n2 n3 j ∧ nv n0 n1 n2 n3 j ≤ 9) → ∃ D1 D2 E1 E2, sheet_Decls.f K (shN m (nv n0 n1 n2 n3) 4 ++ (⟨#[]⟩ : ByteArray)) = some D1 ∧ sheet_Decls.f K (loN m (nv n0 n1 n2 n3) (⟨#[]⟩ : ByteArray) 4) = some D2 ∧ scrimlaw10_decls.f K D1 = some E1 ∧ scrimlaw10_decls.f K D2 = some E2 ∧ scrimref10_SameDecls.f K E1 E2 = some true ∧ D2.length = 4) :
  Calls Tryz.prog 7 #[.agg #[.int .i64 n0, .int .i64 n1, .int .i64 n2, .int .i64 n3], .int .i64 (m : Int), .bool false] w fun e w' => e = .returned (.bool true) ∧ Below w.heap.size w w' := by
 have hu1 := Tryz.underlying73
 have hu2 := Tryz.underlying74
 have AW := Aside0.mk (fun (W : World) (h : Sht.Env W) => scrimlaw10_awake.calls K true rfl W hA h)
 have FIN := Aside0.mk hfin
 have HE := Aside0.mk hE
 obtain ⟨f, hf⟩ : ∃ f, nv n0 n1 n2 n3 = f := ⟨_, rfl⟩
 have HN := Aside0.mk (fun (W : World) (b : Nat) (h : W.heap[b]? = some (.cells #[.int .i64 n0, .int .i64 n1, .int .i64 n2, .int .i64 n3] 73 (0, 0))) (k : Nat) (hk : k < 4) => cell_nv h k hk)
 rw [hf] at FIN HN
 clear hf hA hfin hE
 have hm1 : 1 ≤ m := by omega
 have hm4 : m ≤ 4 := by omega
 have e1 : decide ((m : Int) < 1) = false := decide_eq_false (by omega)
 have e2 : decide (4 < (m : Int)) = false := decide_eq_false (by omega)
 have HEZ : Aside0 ((⟨#[]⟩ : ByteArray).size ≤ 11) := ⟨by decide⟩
 have HMM := Aside0.mk hm
 clear hm
 go_enter Tryz.func7, Tryz.ntmps7
 go_wp2_with (first | (go_at_call 24; refine (AW.out _ (HE.out.below (below_alloc (Below.refl _ _) _))).mono ?_; rintro e w1 ⟨rfl, hB⟩; have B1 := Aside0.mk (below_then (below_alloc (Below.refl _ _) _) (below_alloc (Below.refl _ _) _).size hB); have NB1 := Aside0.mk (blk_below (heap_alloc_new w _) hB); clear hB))
 obtain ⟨g, hg⟩ : ∃ g, w1.heap.size = g := ⟨_, rfl⟩
 have TG0 : Aside0 ((w1.alloc (Obj.cells #[.string ⟨#[]⟩, .string ⟨#[]⟩, .string ⟨#[]⟩, .string ⟨#[]⟩] 74)).heap[g]? = some (.cells (tc f 0) 74 (0, 0))) := ⟨by rw [← hg]; exact heap_alloc_new w1 _⟩
 have NB0 := Aside0.mk (blk_alloc NB1.out (Obj.cells #[.string ⟨#[]⟩, .string ⟨#[]⟩, .string ⟨#[]⟩, .string ⟨#[]⟩] 74))
 have BL0 := Aside0.mk (below_alloc B1.out (Obj.cells #[.string ⟨#[]⟩, .string ⟨#[]⟩, .string ⟨#[]⟩, .string ⟨#[]⟩] 74))
 have HGW : Aside0 (w.heap.size ≤ g) := ⟨by rw [← hg]; exact B1.out.size⟩
 rw [hg]
 clear hg NB1
 go_loopw [9, 10, 25, 26, 27, 28, 29, 30, 31, 32, 33, 34, 35, 36, 37, 38, 39, 40, 41, 42, 43, 44, 45, 46, 47, 48, 49, 50, 51, 52, 53, 54, 55, 56, 57, 58] (fun v9 _ i _ _ _ _ _ _ _ _ _ _ _ _ _ _ _ _ _ _ _ _ _ _ _ _ _ _ _ _ _ _ _ _ _ wr => ∃ k : Nat, k ≤ 4 ∧ i = .int .i64 k ∧ v9 = .string (shN m f k) ∧ Aside0 (∀ j, j < k → 0 ≤ f j ∧ f j ≤ 9) ∧ Aside0 (wr.heap[g]? = some (.cells (tc f k) 74 (0, 0))) ∧ Aside0 (wr.heap[w.heap.size]? = some (.cells #[.int .i64 n0, .int .i64 n1, .int .i64 n2, .int .i64 n3] 73 (0, 0))) ∧ Aside0 (Below w.heap.size w wr)) (fun _ _ i _ _ _ _ _ _ _ _ _ _ _ _ _ _ _ _ _ _ _ _ _ _ _ _ _ _ _ _ _ _ _ _ _ _ => 4 - (RowKit.intOf i).toNat)
 case atStart => exact ⟨0, Nat.zero_le _, rfl, rfl, ⟨fun j hj => absurd hj (Nat.not_lt_zero _)⟩, TG0, NB0, BL0⟩
 case round =>
  clear TG0 NB0 BL0
  obtain ⟨k, hk, rfl, rfl, DG, TG, NB, BR⟩ := hrel
  by_cases hlt : k < 4
  ·have g1 : decide ((k : Int) < 4) = true := decide_eq_true (by omega)
   have c0 := HN.out _ _ NB.out k hlt
   have ct := cell_tc TG.out k hlt
   have cf := blk_frozen TG.out k
   have p0 : (k : Int) < 4 := by omega
   have TN := Aside0.mk (tc_next f k hlt)
   have SN : Aside0 (shN m f (k + 1) = if k < m then shN m f k ++ ((⟨#[32]⟩ : ByteArray) ++ wordN (f k)) else shN m f k) := ⟨rfl⟩
   have SZ := Aside0.mk (sh_sz m f k DG.out)
   have DG2 := Aside0.mk (fun (h : 0 ≤ f k ∧ f k ≤ 9) (j : Nat) (hj : j < k + 1) => (by
    by_cases e : j = k
    ·subst e; exact h
    ·exact DG.out j (by omega) : 0 ≤ f j ∧ f j ≤ 9))
   have WZ := Aside0.mk (fun (h : 0 ≤ f k ∧ f k ≤ 9) => word_sz h.1 h.2)
   have WE : Aside0 (wordN (f k) = (⟨#[48, 49, 50, 51, 52, 53, 54, 55, 56, 57]⟩ : ByteArray).extract (f k).toNat (f k + 1).toNat ++ ⟨#[112, 120]⟩) := ⟨rfl⟩
   have CT2 := Aside0.mk (fun (W : World) (h : W.heap[g]? = some (.cells (tc f (k + 1)) 74 (0, 0))) => (by have e := cell_tc h k hlt; have e2 : tx f (k + 1) k = wordN (f k) := if_pos (by omega); rw [e2] at e; exact e : W.cell? ⟨g, k, none⟩ = some (.string (wordN (f k)))))
   generalize f k = q at c0 TN SN DG2 WZ WE CT2
   by_cases q0 : q < 0
   ·have e3 : decide (q < 0) = true := decide_eq_true q0
    as_aux_lemma =>
    go_wp2
    go_ret
    exact ⟨rfl, BR.out⟩
   have e3 : decide (q < 0) = false := decide_eq_false q0
   by_cases q9 : 9 < q
   ·have e4 : decide (9 < q) = true := decide_eq_true q9
    as_aux_lemma =>
    go_wp2
    go_ret
    exact ⟨rfl, BR.out⟩
   have e4 : decide (9 < q) = false := decide_eq_false q9
   have hw : IntKind.i64.wrap (q + 1) = q + 1 := by rw [i64_w]; unfold wrap64; omega
   have hw2 : wrap64 (q + 1) = q + 1 := by unfold wrap64; omega
   have r0 : 0 ≤ q := by omega
   have r1 : q ≤ q + 1 := by omega
   have r2 : q + 1 ≤ 10 := by omega
   have r3 : 0 ≤ q + 1 := by omega
   go_upto_region 15 with (fail)
   go_region
   rw [← WE.out]
   have WZ2 := Aside0.mk (WZ.out ⟨by omega, by omega⟩)
   generalize wordN q = t at TN SN CT2 WZ2 ⊢
   have TG2 := Aside0.mk (show ((wr.setCell ⟨g, k, none⟩ (.string t)).drew).heap[g]? = some (.cells (tc f (k + 1)) 74 (0, 0)) from blk_put TG.out k _ TN.out)
   have NB2 := Aside0.mk (show ((wr.setCell ⟨g, k, none⟩ (.string t)).drew).heap[w.heap.size]? = some (.cells #[.int .i64 n0, .int .i64 n1, .int .i64 n2, .int .i64 n3] 73 (0, 0)) from blk_far NB.out (blk_ne NB.out TG.out (by decide)) _)
   have BR2 := Aside0.mk (below_drew (BR.out.setCell (p := ⟨g, k, none⟩) HGW.out (.string t)))
   obtain ⟨W2, hW2⟩ : ∃ W, (wr.setCell ⟨g, k, none⟩ (.string t)).drew = W := ⟨_, rfl⟩
   rw [hW2] at TG2 NB2 BR2 ⊢
   clear hW2 c0 ct cf
   have c2 := CT2.out _ TG2.out
   have q1 : ¬ (9223372036854775807 < 1 + t.size) := by have := WZ2.out; omega
   obtain ⟨S, hS⟩ : ∃ S, shN m f k = S := ⟨_, rfl⟩
   rw [hS] at SN SZ ⊢
   have q2 : ¬ (9223372036854775807 < S.size + (1 + t.size)) := by have := WZ2.out; have := SZ.out; omega
   clear hS
   by_cases hkm : k < m
   ·have e5 : decide ((k : Int) < (m : Int)) = true := decide_eq_true (by omega)
    have e6 : (k < m) = True := eq_true hkm
    have SK : Aside0 (shN m f (k + 1) = S ++ ((⟨#[32]⟩ : ByteArray) ++ t)) := ⟨by rw [SN.out, if_pos hkm]⟩
    clear hkm SN
    as_aux_lemma =>
    go_wp2
    exact ⟨⟨k + 1, by omega, by go_num, by rw [SK.out], ⟨DG2.out ⟨by omega, by omega⟩⟩, TG2, NB2, BR2⟩, by simp [RowKit.intOf]; omega⟩
   ·have e5 : decide ((k : Int) < (m : Int)) = false := decide_eq_false (by omega)
    have e6 : (k < m) = False := eq_false hkm
    have SK : Aside0 (shN m f (k + 1) = S) := ⟨by rw [SN.out, if_neg hkm]⟩
    clear hkm SN
    as_aux_lemma =>
    go_wp2
    exact ⟨⟨k + 1, by omega, by go_num, by rw [SK.out], ⟨DG2.out ⟨by omega, by omega⟩⟩, TG2, NB2, BR2⟩, by simp [RowKit.intOf]; omega⟩
  ·obtain rfl : k = 4 := by omega
   obtain ⟨D1, D2, E1, E2, hD1, hD2, hE1, hE2, hSM, hl4⟩ := FIN.out DG.out
   have C1 := Aside0.mk (fun W => sheet_Decls.calls K _ D1 W hD1)
   have C2 := Aside0.mk (fun W => sheet_Decls.calls K _ D2 W hD2)
   have C3 := Aside0.mk (fun A c W hr hc => scrimlaw10_decls.calls K A c D1 E1 W hr hc hE1)
   have C4 := Aside0.mk (fun A c W hr hc => scrimlaw10_decls.calls K A c D2 E2 W hr hc hE2)
   have C5 := Aside0.mk (fun A c B d W h1 h2 h3 h4 => scrimref10_SameDecls.calls K A c E1 B d E2 true W h1 h2 h3 h4 hSM)
   have L4 := Aside0.mk hl4
   have SZ := Aside0.mk (sh_sz m f 4 DG.out)
   have DGG := Aside0.mk DG.out
   have g1 : decide ((4 : Int) < 4) = false := by decide
   clear hD1 hD2 hE1 hE2 hSM hl4 FIN NB
   obtain ⟨S, hS⟩ : ∃ S, shN m f 4 = S := ⟨_, rfl⟩
   rw [hS] at SZ C1 ⊢
   clear hS
   have hm := HMM.out
   rcases hm with rfl | rfl
   ·as_aux_lemma =>
    have iq : ∀ w, (Instr.index 75 (.agg #[.int .i64 0, .int .i64 0, .int .i64 0, .int .i64 0, .int .i64 0, .int .i64 1, .int .i64 0, .int .i64 1, .int .i64 0, .int .i64 1, .int .i64 2, .int .i64 1, .int .i64 0, .int .i64 1, .int .i64 2, .int .i64 3]) (.int .i64 2)).run Tryz.prog w = .ok (.agg #[.int .i64 0, .int .i64 1, .int .i64 2, .int .i64 1]) w := fun _ => by kernel_rfl
    go_upto_region 20 with (first | (with_reducible refine Go.Proofs.wpList_build_to rfl 75 _ rfl bt rfl ?_) | (with_reducible refine Go.Proofs.wpList_build_to rfl 73 _ rfl bt0 rfl ?_) | (with_reducible refine Go.Proofs.wpList_build_to rfl 73 _ rfl bt1 rfl ?_) | (with_reducible refine Go.Proofs.wpList_build_to rfl 73 _ rfl bt2 rfl ?_) | (with_reducible refine Go.Proofs.wpList_build_to rfl 73 _ rfl bt3 rfl ?_))
    go_wp2
    obtain ⟨b, hb⟩ : ∃ b, wr.heap.size = b := ⟨_, rfl⟩
    have GB := Aside0.mk (blk_alloc (heap_alloc_new wr (Obj.cells #[.int .i64 0, .int .i64 1, .int .i64 2, .int .i64 1] 73)) (Obj.cells #[.string ⟨#[116, 111, 112]⟩, .string ⟨#[114, 105, 103, 104, 116]⟩, .string ⟨#[98, 111, 116, 116, 111, 109]⟩, .string ⟨#[108, 101, 102, 116]⟩] 9))
    have GN := Aside0.mk (heap_alloc_new (wr.alloc (Obj.cells #[.int .i64 0, .int .i64 1, .int .i64 2, .int .i64 1] 73)) (Obj.cells #[.string ⟨#[116, 111, 112]⟩, .string ⟨#[114, 105, 103, 104, 116]⟩, .string ⟨#[98, 111, 116, 116, 111, 109]⟩, .string ⟨#[108, 101, 102, 116]⟩] 9))
    have GT := Aside0.mk (blk_alloc (blk_alloc TG.out (Obj.cells #[.int .i64 0, .int .i64 1, .int .i64 2, .int .i64 1] 73)) (Obj.cells #[.string ⟨#[116, 111, 112]⟩, .string ⟨#[114, 105, 103, 104, 116]⟩, .string ⟨#[98, 111, 116, 116, 111, 109]⟩, .string ⟨#[108, 101, 102, 116]⟩] 9))
    have BB := Aside0.mk (below_alloc (below_alloc BR.out (Obj.cells #[.int .i64 0, .int .i64 1, .int .i64 2, .int .i64 1] 73)) (Obj.cells #[.string ⟨#[116, 111, 112]⟩, .string ⟨#[114, 105, 103, 104, 116]⟩, .string ⟨#[98, 111, 116, 116, 111, 109]⟩, .string ⟨#[108, 101, 102, 116]⟩] 9))
    have sz1 : (wr.alloc (Obj.cells #[.int .i64 0, .int .i64 1, .int .i64 2, .int .i64 1] 73)).heap.size = wr.heap.size + 1 := World.size_alloc _ _
    rw [sz1] at GN
    obtain ⟨WA, hWA⟩ : ∃ W, (wr.alloc (Obj.cells #[.int .i64 0, .int .i64 1, .int .i64 2, .int .i64 1] 73)).alloc (Obj.cells #[.string ⟨#[116, 111, 112]⟩, .string ⟨#[114, 105, 103, 104, 116]⟩, .string ⟨#[98, 111, 116, 116, 111, 109]⟩, .string ⟨#[108, 101, 102, 116]⟩] 9) = W := ⟨_, rfl⟩
    rw [hWA] at GB GN GT BB ⊢
    rw [hb] at GB GN ⊢
    clear hWA sz1 hb iq
    have CW : Aside0 (∀ k, k < 4 → WA.cell? ⟨b, k, none⟩ = some (.int .i64 ((whN 3 k : Nat) : Int))) := ⟨fun k hk => (blk_cell GB.out k).trans (by rcases (by omega : k = 0 ∨ k = 1 ∨ k = 2 ∨ k = 3) with rfl | rfl | rfl | rfl <;> rfl)⟩
    have CN : Aside0 (∀ k, k < 4 → WA.cell? ⟨b + 1, k, none⟩ = some (.string (sideN k))) := ⟨fun k hk => (blk_cell GN.out k).trans (by rcases (by omega : k = 0 ∨ k = 1 ∨ k = 2 ∨ k = 3) with rfl | rfl | rfl | rfl <;> rfl)⟩
    have CT : Aside0 (∀ k, k < 4 → WA.cell? ⟨g, k, none⟩ = some (.string (wordN (f k)))) := ⟨fun k hk => (cell_tc GT.out k hk).trans (by rw [show tx f 4 k = wordN (f k) from if_pos hk])⟩
    go_loopw [12, 13, 14, 69, 70, 71, 72, 73, 74, 75, 76, 77, 78, 79, 80, 81, 82, 83, 84, 85, 86, 87, 88] (fun v12 _ _ i _ _ _ _ _ _ _ _ _ _ _ _ _ _ _ _ _ _ _ wy => ∃ k : Nat, k ≤ 4 ∧ i = .int .i64 k ∧ v12 = .string (loN 3 f (⟨#[]⟩ : ByteArray) k) ∧ Aside0 (wy = WA)) (fun _ _ _ i _ _ _ _ _ _ _ _ _ _ _ _ _ _ _ _ _ _ _ _ => 4 - (RowKit.intOf i).toNat)
    case atStart => exact ⟨0, Nat.zero_le _, rfl, rfl, ⟨rfl⟩⟩
    case round =>
     obtain ⟨k, hk, rfl, rfl, ⟨rfl⟩⟩ := hrel
     by_cases hlt : k < 4
     ·have g2 : decide ((k : Int) < 4) = true := decide_eq_true (by omega)
      have c1 := CW.out k hlt
      have c2 := CN.out k hlt
      have hq4 := wh_lt 3 k
      have c3 := CT.out _ hq4
      have pk : (k : Int) < 4 := by omega
      have LN : Aside0 (loN 3 f (⟨#[]⟩ : ByteArray) (k + 1) = loN 3 f (⟨#[]⟩ : ByteArray) k ++ ((((((⟨#[109, 97, 114, 103, 105, 110, 45]⟩ : ByteArray) ++ sideN k) ++ (⟨#[58, 32]⟩ : ByteArray)) ++ wordN (f (whN 3 k))) ++ (⟨#[]⟩ : ByteArray)) ++ (⟨#[59]⟩ : ByteArray))) := ⟨rfl⟩
      have LZ := Aside0.mk (lo_sz 3 f (⟨#[]⟩ : ByteArray) HEZ.out DGG.out k)
      have WZ := word_sz (DGG.out _ hq4).1 (DGG.out _ hq4).2
      have SDZ := side_sz k
      obtain ⟨q, hq⟩ : ∃ q, whN 3 k = q := ⟨_, rfl⟩
      rw [hq] at c1 c3 LN WZ hq4
      have pq : (q : Int) < 4 := by omega
      generalize wordN (f q) = t at c3 LN WZ
      generalize sideN k = sd at c2 LN SDZ
      clear hq
      obtain ⟨L, hL⟩ : ∃ L, loN 3 f (⟨#[]⟩ : ByteArray) k = L := ⟨_, rfl⟩
      rw [hL] at LN LZ ⊢
      clear hL
      have HZ := Aside0.mk WZ
      have r1 : ¬ (9223372036854775807 < 7 + sd.size) := by omega
      have r2 : ¬ (9223372036854775807 < 7 + sd.size + 2) := by omega
      have r3 : ¬ (9223372036854775807 < 7 + sd.size + 2 + t.size) := by omega
      have r4 : ¬ (9223372036854775807 < 7 + sd.size + 2 + t.size + 11) := by omega
      have r5 : ¬ (9223372036854775807 < 7 + sd.size + 2 + t.size + 11 + 1) := by omega
      have r6 : ¬ (9223372036854775807 < 7 + sd.size + 2 + t.size + 1) := by omega
      have r7 : ¬ (9223372036854775807 < L.size + (7 + sd.size + 2 + t.size + 11 + 1)) := by have := LZ.out; omega
      have r8 : ¬ (9223372036854775807 < L.size + (7 + sd.size + 2 + t.size + 1)) := by have := LZ.out; omega
      clear WZ
      as_aux_lemma =>
      go_wp2
      exact ⟨⟨k + 1, by omega, by go_num, by first | (rw [LN.out]; done) | (rw [LN.out]; first | rfl | simp), ⟨by first | trivial | rfl⟩⟩, by simp [RowKit.intOf]; omega⟩
     ·obtain rfl : k = 4 := by omega
      have LZ := Aside0.mk (lo_sz 3 f (⟨#[]⟩ : ByteArray) HEZ.out DGG.out 4)
      obtain ⟨L, hL⟩ : ∃ L, loN 3 f (⟨#[]⟩ : ByteArray) 4 = L := ⟨_, rfl⟩
      rw [hL] at C2 LZ ⊢
      clear hL
      have r1 : ¬ (9223372036854775807 < S.size + 11) := by have := SZ.out; omega
      have KB := Aside0.mk (fun (W : World) (h : Below wr.heap.size wr W) => (below_then BB.out BB.out.size h : Below w.heap.size w W))
      have KS := Aside0.mk (fun (W V : World) (h : Below w.heap.size w W) (h2 : Below W.heap.size W V) => (below_then h h.size h2 : Below w.heap.size w V))
      go_wp2_with (first | (go_at_call 32; first | ((with_reducible refine (C1.out _).mono ?_); rintro e u1 ⟨v1, rfl, hR, hB⟩; obtain ⟨X1, x1, rfl, y1, z1⟩ := Kd.R_reads hR; have Y1 := Aside0.mk y1; have Z1 := Aside0.mk z1; have BW1 := Aside0.mk (KB.out _ hB); clear hR hB y1 z1) | ((with_reducible refine (C2.out _).mono ?_); rintro e u3 ⟨v3, rfl, hR, hB⟩; obtain ⟨X3, x3, rfl, y3, z3⟩ := Kd.R_reads hR; have Y3 := Aside0.mk y3; have Z3 := Aside0.mk z3; have HB3 := Aside0.mk hB; clear hR hB y3 z3)) | (go_at_call 31; first | ((with_reducible refine (C3.out _ _ _ Z1.out Y1.out).mono ?_); rintro e u2 ⟨v2, rfl, hR, hB⟩; obtain ⟨X2, x2, rfl, y2, z2⟩ := Kd.R_reads hR; have Y2 := Aside0.mk y2; have Z2 := Aside0.mk z2; have BW2 := Aside0.mk (KS.out _ _ BW1.out hB); clear hR hB y2 z2) | ((with_reducible refine (C4.out _ _ _ Z3.out Y3.out).mono ?_); rintro e u4 ⟨v4, rfl, hR, hB⟩; obtain ⟨X4, x4, rfl, y4, z4⟩ := Kd.R_reads hR; have Y4 := Aside0.mk y4; have Z4 := Aside0.mk z4; have Z22 := Aside0.mk (Kd.C_below (Kd.C_below Z2.out HB3.out) hB); have BW4 := Aside0.mk (KS.out _ _ (KS.out _ _ BW2.out HB3.out) hB); clear hR hB y4 z4)) | (go_at_call 30; refine (C5.out _ _ _ _ _ Z22.out Y2.out Z4.out Y4.out).mono ?_; rintro e u5 ⟨rfl, ⟨nd, rfl⟩⟩))
      go_ret
      exact ⟨by rw [L4.out]; rfl, KS.out _ _ (pw_below_drewN BW4.out nd) HB3.out⟩
   ·as_aux_lemma =>
    have iq : ∀ w, (Instr.index 75 (.agg #[.int .i64 0, .int .i64 0, .int .i64 0, .int .i64 0, .int .i64 0, .int .i64 1, .int .i64 0, .int .i64 1, .int .i64 0, .int .i64 1, .int .i64 2, .int .i64 1, .int .i64 0, .int .i64 1, .int .i64 2, .int .i64 3]) (.int .i64 3)).run Tryz.prog w = .ok (.agg #[.int .i64 0, .int .i64 1, .int .i64 2, .int .i64 3]) w := fun _ => by kernel_rfl
    go_upto_region 20 with (first | (with_reducible refine Go.Proofs.wpList_build_to rfl 75 _ rfl bt rfl ?_) | (with_reducible refine Go.Proofs.wpList_build_to rfl 73 _ rfl bt0 rfl ?_) | (with_reducible refine Go.Proofs.wpList_build_to rfl 73 _ rfl bt1 rfl ?_) | (with_reducible refine Go.Proofs.wpList_build_to rfl 73 _ rfl bt2 rfl ?_) | (with_reducible refine Go.Proofs.wpList_build_to rfl 73 _ rfl bt3 rfl ?_))
    go_wp2
    obtain ⟨b, hb⟩ : ∃ b, wr.heap.size = b := ⟨_, rfl⟩
    have GB := Aside0.mk (blk_alloc (heap_alloc_new wr (Obj.cells #[.int .i64 0, .int .i64 1, .int .i64 2, .int .i64 3] 73)) (Obj.cells #[.string ⟨#[116, 111, 112]⟩, .string ⟨#[114, 105, 103, 104, 116]⟩, .string ⟨#[98, 111, 116, 116, 111, 109]⟩, .string ⟨#[108, 101, 102, 116]⟩] 9))
    have GN := Aside0.mk (heap_alloc_new (wr.alloc (Obj.cells #[.int .i64 0, .int .i64 1, .int .i64 2, .int .i64 3] 73)) (Obj.cells #[.string ⟨#[116, 111, 112]⟩, .string ⟨#[114, 105, 103, 104, 116]⟩, .string ⟨#[98, 111, 116, 116, 111, 109]⟩, .string ⟨#[108, 101, 102, 116]⟩] 9))
    have GT := Aside0.mk (blk_alloc (blk_alloc TG.out (Obj.cells #[.int .i64 0, .int .i64 1, .int .i64 2, .int .i64 3] 73)) (Obj.cells #[.string ⟨#[116, 111, 112]⟩, .string ⟨#[114, 105, 103, 104, 116]⟩, .string ⟨#[98, 111, 116, 116, 111, 109]⟩, .string ⟨#[108, 101, 102, 116]⟩] 9))
    have BB := Aside0.mk (below_alloc (below_alloc BR.out (Obj.cells #[.int .i64 0, .int .i64 1, .int .i64 2, .int .i64 3] 73)) (Obj.cells #[.string ⟨#[116, 111, 112]⟩, .string ⟨#[114, 105, 103, 104, 116]⟩, .string ⟨#[98, 111, 116, 116, 111, 109]⟩, .string ⟨#[108, 101, 102, 116]⟩] 9))
    have sz1 : (wr.alloc (Obj.cells #[.int .i64 0, .int .i64 1, .int .i64 2, .int .i64 3] 73)).heap.size = wr.heap.size + 1 := World.size_alloc _ _
    rw [sz1] at GN
    obtain ⟨WA, hWA⟩ : ∃ W, (wr.alloc (Obj.cells #[.int .i64 0, .int .i64 1, .int .i64 2, .int .i64 3] 73)).alloc (Obj.cells #[.string ⟨#[116, 111, 112]⟩, .string ⟨#[114, 105, 103, 104, 116]⟩, .string ⟨#[98, 111, 116, 116, 111, 109]⟩, .string ⟨#[108, 101, 102, 116]⟩] 9) = W := ⟨_, rfl⟩
    rw [hWA] at GB GN GT BB ⊢
    rw [hb] at GB GN ⊢
    clear hWA sz1 hb iq
    have CW : Aside0 (∀ k, k < 4 → WA.cell? ⟨b, k, none⟩ = some (.int .i64 ((whN 4 k : Nat) : Int))) := ⟨fun k hk => (blk_cell GB.out k).trans (by rcases (by omega : k = 0 ∨ k = 1 ∨ k = 2 ∨ k = 3) with rfl | rfl | rfl | rfl <;> rfl)⟩
    have CN : Aside0 (∀ k, k < 4 → WA.cell? ⟨b + 1, k, none⟩ = some (.string (sideN k))) := ⟨fun k hk => (blk_cell GN.out k).trans (by rcases (by omega : k = 0 ∨ k = 1 ∨ k = 2 ∨ k = 3) with rfl | rfl | rfl | rfl <;> rfl)⟩
    have CT : Aside0 (∀ k, k < 4 → WA.cell? ⟨g, k, none⟩ = some (.string (wordN (f k)))) := ⟨fun k hk => (cell_tc GT.out k hk).trans (by rw [show tx f 4 k = wordN (f k) from if_pos hk])⟩
    go_loopw [12, 13, 14, 69, 70, 71, 72, 73, 74, 75, 76, 77, 78, 79, 80, 81, 82, 83, 84, 85, 86, 87, 88] (fun v12 _ _ i _ _ _ _ _ _ _ _ _ _ _ _ _ _ _ _ _ _ _ wy => ∃ k : Nat, k ≤ 4 ∧ i = .int .i64 k ∧ v12 = .string (loN 4 f (⟨#[]⟩ : ByteArray) k) ∧ Aside0 (wy = WA)) (fun _ _ _ i _ _ _ _ _ _ _ _ _ _ _ _ _ _ _ _ _ _ _ _ => 4 - (RowKit.intOf i).toNat)
    case atStart => exact ⟨0, Nat.zero_le _, rfl, rfl, ⟨rfl⟩⟩
    case round =>
     obtain ⟨k, hk, rfl, rfl, ⟨rfl⟩⟩ := hrel
     by_cases hlt : k < 4
     ·have g2 : decide ((k : Int) < 4) = true := decide_eq_true (by omega)
      have c1 := CW.out k hlt
      have c2 := CN.out k hlt
      have hq4 := wh_lt 4 k
      have c3 := CT.out _ hq4
      have pk : (k : Int) < 4 := by omega
      have LN : Aside0 (loN 4 f (⟨#[]⟩ : ByteArray) (k + 1) = loN 4 f (⟨#[]⟩ : ByteArray) k ++ ((((((⟨#[109, 97, 114, 103, 105, 110, 45]⟩ : ByteArray) ++ sideN k) ++ (⟨#[58, 32]⟩ : ByteArray)) ++ wordN (f (whN 4 k))) ++ (⟨#[]⟩ : ByteArray)) ++ (⟨#[59]⟩ : ByteArray))) := ⟨rfl⟩
      have LZ := Aside0.mk (lo_sz 4 f (⟨#[]⟩ : ByteArray) HEZ.out DGG.out k)
      have WZ := word_sz (DGG.out _ hq4).1 (DGG.out _ hq4).2
      have SDZ := side_sz k
      obtain ⟨q, hq⟩ : ∃ q, whN 4 k = q := ⟨_, rfl⟩
      rw [hq] at c1 c3 LN WZ hq4
      have pq : (q : Int) < 4 := by omega
      generalize wordN (f q) = t at c3 LN WZ
      generalize sideN k = sd at c2 LN SDZ
      clear hq
      obtain ⟨L, hL⟩ : ∃ L, loN 4 f (⟨#[]⟩ : ByteArray) k = L := ⟨_, rfl⟩
      rw [hL] at LN LZ ⊢
      clear hL
      have HZ := Aside0.mk WZ
      have r1 : ¬ (9223372036854775807 < 7 + sd.size) := by omega
      have r2 : ¬ (9223372036854775807 < 7 + sd.size + 2) := by omega
      have r3 : ¬ (9223372036854775807 < 7 + sd.size + 2 + t.size) := by omega
      have r4 : ¬ (9223372036854775807 < 7 + sd.size + 2 + t.size + 11) := by omega
      have r5 : ¬ (9223372036854775807 < 7 + sd.size + 2 + t.size + 11 + 1) := by omega
      have r6 : ¬ (9223372036854775807 < 7 + sd.size + 2 + t.size + 1) := by omega
      have r7 : ¬ (9223372036854775807 < L.size + (7 + sd.size + 2 + t.size + 11 + 1)) := by have := LZ.out; omega
      have r8 : ¬ (9223372036854775807 < L.size + (7 + sd.size + 2 + t.size + 1)) := by have := LZ.out; omega
      clear WZ
      as_aux_lemma =>
      go_wp2
      exact ⟨⟨k + 1, by omega, by go_num, by first | (rw [LN.out]; done) | (rw [LN.out]; first | rfl | simp), ⟨by first | trivial | rfl⟩⟩, by simp [RowKit.intOf]; omega⟩
     ·obtain rfl : k = 4 := by omega
      have LZ := Aside0.mk (lo_sz 4 f (⟨#[]⟩ : ByteArray) HEZ.out DGG.out 4)
      obtain ⟨L, hL⟩ : ∃ L, loN 4 f (⟨#[]⟩ : ByteArray) 4 = L := ⟨_, rfl⟩
      rw [hL] at C2 LZ ⊢
      clear hL
      have r1 : ¬ (9223372036854775807 < S.size + 11) := by have := SZ.out; omega
      have KB := Aside0.mk (fun (W : World) (h : Below wr.heap.size wr W) => (below_then BB.out BB.out.size h : Below w.heap.size w W))
      have KS := Aside0.mk (fun (W V : World) (h : Below w.heap.size w W) (h2 : Below W.heap.size W V) => (below_then h h.size h2 : Below w.heap.size w V))
      go_wp2_with (first | (go_at_call 32; first | ((with_reducible refine (C1.out _).mono ?_); rintro e u1 ⟨v1, rfl, hR, hB⟩; obtain ⟨X1, x1, rfl, y1, z1⟩ := Kd.R_reads hR; have Y1 := Aside0.mk y1; have Z1 := Aside0.mk z1; have BW1 := Aside0.mk (KB.out _ hB); clear hR hB y1 z1) | ((with_reducible refine (C2.out _).mono ?_); rintro e u3 ⟨v3, rfl, hR, hB⟩; obtain ⟨X3, x3, rfl, y3, z3⟩ := Kd.R_reads hR; have Y3 := Aside0.mk y3; have Z3 := Aside0.mk z3; have HB3 := Aside0.mk hB; clear hR hB y3 z3)) | (go_at_call 31; first | ((with_reducible refine (C3.out _ _ _ Z1.out Y1.out).mono ?_); rintro e u2 ⟨v2, rfl, hR, hB⟩; obtain ⟨X2, x2, rfl, y2, z2⟩ := Kd.R_reads hR; have Y2 := Aside0.mk y2; have Z2 := Aside0.mk z2; have BW2 := Aside0.mk (KS.out _ _ BW1.out hB); clear hR hB y2 z2) | ((with_reducible refine (C4.out _ _ _ Z3.out Y3.out).mono ?_); rintro e u4 ⟨v4, rfl, hR, hB⟩; obtain ⟨X4, x4, rfl, y4, z4⟩ := Kd.R_reads hR; have Y4 := Aside0.mk y4; have Z4 := Aside0.mk z4; have Z22 := Aside0.mk (Kd.C_below (Kd.C_below Z2.out HB3.out) hB); have BW4 := Aside0.mk (KS.out _ _ (KS.out _ _ BW2.out HB3.out) hB); clear hR hB y4 z4)) | (go_at_call 30; refine (C5.out _ _ _ _ _ Z22.out Y2.out Z4.out Y4.out).mono ?_; rintro e u5 ⟨rfl, ⟨nd, rfl⟩⟩))
      go_ret
      exact ⟨by rw [L4.out]; rfl, KS.out _ _ (pw_below_drewN BW4.out nd) HB3.out⟩
end Go.Proofs.YtolfpgccebdlpaaGreatDoor.Shw
