/- scrimlaw10.own: what it leans on; no condition beside those that each theorem states. -/
import Derived.Test.YtolfpgccebdlpaaGreatDoorHT1
import Derived.Test.YtolfpgccebdlpaaGreatDoorVaG
import Derived.Test.YtolfpgccebdlpaaGreatDoorHT4
import Derived.Test.YtolfpgccebdlpaaGreatDoorScC
set_option linter.unusedVariables false
set_option linter.unusedSimpArgs false
namespace Go.Proofs.YtolfpgccebdlpaaGreatDoor.Shn
open Go.RowKit Go.Lib Go.Proofs.YtolfpgccebdlpaaGreatDoor.HT Go.Proofs.YtolfpgccebdlpaaGreatDoorW.PrintWords Go.Proofs.YtolfpgccebdlpaaGreatDoorW.PrintLast Go.Proofs.YtolfpgccebdlpaaGreatDoorW.PrintMore Go.Proofs.Sht Go.Proofs.Tok
def toD (x : Dc) : S111 := ⟨x.1, ⟨x.2.1, x.2.2.1⟩, x.2.2.2⟩
def toR (x : Dc) : S123 := ⟨x.1, ⟨x.2.1, x.2.2.1⟩, x.2.2.2⟩
def ofR (x : S123) : Dc := (x.f0, x.f1.f0, x.f1.f1, x.f2)
theorem rd_toD {l : List Dc} {i : Nat} (h : i < l.length) : rd_T111 (l.map toD) (i : Int) = toD l[i] := by
  unfold rd_T111
  rw [Int.toNat_natCast, List.getD, List.getElem?_eq_getElem (by rw [List.length_map]; exact h), List.getElem_map]
  rfl
theorem w64b (i : Nat) (h : i ≤ 4398046511000) : wrap64 ((i : Int) + 1) = ((i + 1 : Nat) : Int) := by unfold wrap64; omega
theorem conv_l (P : List Dc) (hP : P.length ≤ 4398046511000) : ∀ (d n : Nat) (acc : List (S123)), n + d = P.length → acc.length ≤ n → Ev (fun k => scrimlaw10_decls.l0 k acc (P.map toD) ((P.map toD).length : Int) (n : Int)) (acc ++ (P.drop n).map toR)
  | 0, n, acc, h, ha => by
    obtain rfl : n = P.length := by omega
    rw [List.drop_length, List.map_nil, List.append_nil]
    exact Ev.step (f := fun k => some acc) (fun k => by rw [scrimlaw10_decls.l0, if_neg (by rw [List.length_map]; omega)]) (Ev.now _)
  | d + 1, n, acc, h, ha => by
    have hn : n < P.length := by omega
    have hl : (P.map toD).length = P.length := List.length_map _
    rw [List.drop_eq_getElem_cons hn, List.map_cons]
    have ih := conv_l P hP d (n + 1) (acc ++ [toR P[n]]) (by omega) (by rw [List.length_append]; simp; omega)
    rw [List.append_assoc] at ih
    refine Ev.step (f := fun k => scrimlaw10_decls.l0 k (acc ++ [toR P[n]]) (P.map toD) ((P.map toD).length : Int) ((n + 1 : Nat) : Int)) (fun k => ?_) ih
    rw [scrimlaw10_decls.l0, if_pos (by rw [hl]; omega), if_pos (by omega), if_pos (by rw [hl]; omega), rd_toD hn, if_pos (by omega), w64b n (by omega)]
    rfl
theorem conv_all (P : List Dc) (hP : P.length ≤ 4398046511000) : ∃ k, scrimlaw10_decls.f k (P.map toD) = some (P.map toR) := by
  obtain ⟨k, h⟩ := conv_l P hP P.length 0 [] (Nat.zero_add _) (by simp)
  exact ⟨k, by unfold scrimlaw10_decls.f; simpa using h k (Nat.le_refl _)⟩
/-- the law's own declarations: a row of the call's own that reads the same -/
theorem declsC (ds : List Dc) (hl : ds.length ≤ 4398046511000) (A : Option Addr) (c : Nat) (hc : ds.length ≤ c) (w : World) (C : Kd.C kDc w A ds.length ds) :
    Calls Tryz.prog 31 #[.slice A ds.length c] w fun e w' => ∃ v, e = .returned v ∧ Kd.R kDc 123 w' w.heap.size (fun _ => True) v ds ∧ Below w.heap.size w w' := by
  obtain ⟨k, hk⟩ := conv_all ds hl
  have hC : Kd.C k111 w A (ds.map toD).length (ds.map toD) := by
    rw [List.length_map]
    refine C_to (d := kDc) (d' := k111) rfl (fun W x cs hK => ?_) C
    obtain ⟨_, _, rfl, rfl, ⟨_, _, rfl, rfl, ⟨_, _, rfl, rfl, rfl⟩⟩⟩ := hK
    exact ⟨[.int .i64 x.1], [.int .i64 x.2.1, .int .i64 x.2.2.1, .bool x.2.2.2], rfl, rfl, ⟨[.int .i64 x.2.1, .int .i64 x.2.2.1], [.bool x.2.2.2], rfl, ⟨[.int .i64 x.2.1], [.int .i64 x.2.2.1], rfl, rfl, rfl⟩, rfl⟩⟩
  have q := scrimlaw10_decls.calls k A c (ds.map toD) (ds.map toR) w hC (by rw [List.length_map]; exact hc) hk
  rw [List.length_map] at q
  refine q.mono fun e w' hq => ?_
  obtain ⟨v, he, hR, hB⟩ := hq
  refine ⟨v, he, ?_, hB⟩
  have h2 := R_to (d := k123) (d' := kDc) (f := ofR) rfl (fun W ok x cs hM => by
    obtain ⟨_, _, rfl, rfl, ⟨_, _, rfl, ⟨_, _, rfl, rfl, rfl⟩, rfl⟩⟩ := hM
    exact ⟨[.int .i64 x.f0], [.int .i64 x.f1.f0, .int .i64 x.f1.f1, .bool x.f2], rfl, rfl, ⟨[.int .i64 x.f1.f0], [.int .i64 x.f1.f1, .bool x.f2], rfl, rfl, ⟨[.int .i64 x.f1.f1], [.bool x.f2], rfl, rfl, rfl⟩⟩⟩) hR
  rw [List.map_map] at h2
  have e : ofR ∘ toR = id := rfl
  rw [e, List.map_id] at h2
  exact h2
/-! ### own -/
theorem FK_two {α β : Type} {a : Kd α} {b : Kd β} {e1 e2 base : Nat} {W : World} {ok : Nat → Prop} {v1 v2 : Value} {x : List α × List β} (h1 : Kd.V a e1 W base ok v1 x.1) (h2 : Kd.V b e2 W base ok v2 x.2) : Kd.FK (Kd.pair (Kd.slice e1 a) (Kd.slice e2 b)) W ok x [v1, v2] := by
  obtain ⟨A1, c1, rfl, l1, f1⟩ := h1
  obtain ⟨A2, c2, rfl, l2, f2⟩ := h2
  intro W' hW
  exact ⟨[_], [_], rfl, ⟨A1, c1, rfl, l1, f1 W' hW⟩, ⟨A2, c2, rfl, l2, f2 W' hW⟩⟩
theorem heap_Smp : Kd.Heap kSmp := Kd.heap_pair Kd.heap_string (Kd.heap_pair (Kd.heap_slice _ Kd.heap_string) (Kd.heap_pair (Kd.heap_slice _ Kd.heap_string) (Kd.heap_pair Kd.heap_bool Kd.heap_bool)))
theorem heap_lt2 {W W1 : World} {k : Nat} (h : W1.heap[k]? = W.heap[k]?) (hlt : k < W.heap.size) : k < W1.heap.size := by
  rw [Array.getElem?_eq_getElem hlt] at h
  exact (Array.getElem?_eq_some_iff.1 h).1
theorem at_SmpF {w : World} {ok : Nat → Prop} {A : Option Addr} {n : Nat} {xs : List Smp} (h : Kd.F kSmp w ok A n xs) (k : Nat) (hk : k < n) (hx : k < xs.length) : ∃ ad A1 c1 A2 c2, A = some ad ∧ w.cell? (ad.add (k * 5)) = some (.string xs[k].1) ∧ w.cell? ⟨(ad.add (k * 5)).block, (ad.add (k * 5)).off + 1, none⟩ = some (.slice A1 xs[k].2.1.length c1) ∧ w.cell? ⟨(ad.add (k * 5)).block, (ad.add (k * 5)).off + 2, none⟩ = some (.slice A2 xs[k].2.2.1.length c2) ∧ w.cell? ⟨(ad.add (k * 5)).block, (ad.add (k * 5)).off + 3, none⟩ = some (.bool xs[k].2.2.2.1) ∧ w.cell? ⟨(ad.add (k * 5)).block, (ad.add (k * 5)).off + 4, none⟩ = some (.bool xs[k].2.2.2.2) ∧ Kd.FK kSmp w ok xs[k] [.string xs[k].1, .slice A1 xs[k].2.1.length c1, .slice A2 xs[k].2.2.1.length c2, .bool xs[k].2.2.2.1, .bool xs[k].2.2.2.2] := by
  obtain ⟨ad, c, e, _, hF, hc0, _⟩ := Kd.F_get h zSmp (k : Int) (by omega) (by omega)
  have hg : xs.getD (k : Int).toNat zSmp = xs[k] := by rw [Int.toNat_natCast, List.getD, List.getElem?_eq_getElem hx]; rfl
  rw [hg] at hF
  have hc : ∀ j u, c[j]? = some u → w.cell? (ad.add (k * 5 + j)) = some u := hc0
  obtain ⟨A1, c1, A2, c2, rfl, l1, g1, l2, g2⟩ := kSmp_open (Kd.FK_now hF)
  exact ⟨ad, A1, c1, A2, c2, e, hc 0 _ rfl, by rw [← add_field _ _ 1 (by omega)]; exact hc 1 _ rfl, by rw [← add_field _ _ 2 (by omega)]; exact hc 2 _ rfl, by rw [← add_field _ _ 3 (by omega)]; exact hc 3 _ rfl, by rw [← add_field _ _ 4 (by omega)]; exact hc 4 _ rfl, hF⟩
theorem V_of_R {e base base' : Nat} {ok : Nat → Prop} {W W1 : World} {v : Value} {ds : List Dc} (h : Kd.R kDc e W base ok v ds) (hm : ∀ b, v.ownBlock = some b → W1.heap[b]? = W.heap[b]?) : Kd.V kDc e W1 base' (fun k => v.ownBlock = some k) v ds := by
  obtain ⟨h0, inner, ho, hr⟩ := h
  have hr2 : Reps (kDc.M W base (fun k => v.ownBlock = some k ∧ some k ≠ v.ownBlock)) kDc.sz ds inner := hr
  have h2 : Kd.R kDc e W base (fun k => v.ownBlock = some k) v ds := ⟨fun k hk => hk, inner, ho, hr2⟩
  obtain ⟨A, c, he, hl, _⟩ := Kd.R_reads h2
  have hlt := Kd.R_lt h2
  subst he
  refine ⟨A, c, rfl, hl, fun W' hW => ?_⟩
  obtain ⟨A', c', he', _, hC⟩ := Kd.R_reads (Kd.R_move h2 (w1 := W') (fun k hk => (hW k hk (by have e1 := hm k hk; have := hlt k hk; exact heap_lt2 e1 this)).trans (hm k hk)))
  injection he' with e1
  rw [e1]
  exact hC
theorem own_typed_R {e base : Nat} {ok : Nat → Prop} {W : World} {v : Value} {ds : List Dc} (h : Kd.R kDc e W base ok v ds) (k : Nat) (hk : v.ownBlock = some k) : ∃ cells, W.heap[k]? = some (.cells cells e (0, 0)) := by
  obtain ⟨h0, inner, ho, hr⟩ := h
  exact own_typed ho k hk
theorem infoS : (Tryz.prog.info? 79).map (fun i => (i.zero, i.size, i.bytes)) = some (some (.agg #[.string ⟨#[]⟩, .slice none 0 0, .slice none 0 0, .bool false, .bool false]), 5, 72) := by kernel_rfl
theorem infoE : (Tryz.prog.info? 30).map (fun i => (i.zero, i.size, i.bytes)) = some (some (.agg #[.slice none 0 0, .slice none 0 0]), 2, 48) := by kernel_rfl
theorem infoU : (Tryz.prog.info? 113).map (fun i => (i.zero, i.size, i.bytes)) = some (some (.agg #[.slice none 0 0, .slice none 0 0]), 2, 48) := by kernel_rfl
set_option maxHeartbeats 20000000 in
set_option maxRecDepth 400000 in
theorem ownC (xs : List Rl) (A : Option Addr) (c : Nat) (w : World) (C : Kd.C kRl w A xs.length xs) (hc : xs.length ≤ c) (hl : xs.length ≤ 2932031007317) (hs : ∀ r ∈ xs, r.1.length ≤ 2932031007317 ∧ r.2.length ≤ 4398046511000 ∧ ∀ s ∈ r.1, s.1.length ≤ 1954687338211) :
    Calls Tryz.prog 26 #[.slice A xs.length c] w fun e w' => ∃ v, e = .returned v ∧ Kd.V kRl 113 w' w.heap.size (fun _ => True) v (xs.take 201) ∧ Below w.heap.size w w' := by
  have D0 := Aside0.mk C
  have HS := Aside0.mk hs
  clear C hs
  have hu1 := Tryz.underlying115
  have hu2 := Tryz.underlying25
  have hu3 := Tryz.underlying80
  have hu4 := Tryz.underlying113
  have hu5 := Tryz.underlying30
  have hu6 := Tryz.underlying79
  go_enter Tryz.func26, Tryz.ntmps26
  go_wp2
  go_loopw [3, 4, 5, 6, 8, 9, 11, 14, 15, 16, 17, 18, 19, 20, 21, 22, 23, 24, 25, 26, 27, 28, 29, 30, 31, 32, 33, 34, 35, 36, 37, 38, 39, 40, 41, 42, 43, 44, 45, 46, 47, 48, 49, 50, 51, 52, 53, 54, 55, 56, 57, 58, 59, 60, 61] (fun v3 _ _ _ _ _ _ i _ _ _ _ _ _ _ _ _ _ _ _ _ _ _ _ _ _ _ _ _ _ _ _ _ _ _ _ _ _ _ _ _ _ _ _ _ _ _ _ _ _ _ _ _ _ _ wr => ∃ k : Nat, k ≤ xs.length ∧ i = .int .i64 k ∧ Aside0 (k ≤ 201) ∧ Aside0 (Kd.N kRl 113 wr w.heap.size (fun _ => True) v3 (xs.take k)) ∧ Aside0 (Below w.heap.size w wr)) (fun _ _ _ _ _ _ _ i _ _ _ _ _ _ _ _ _ _ _ _ _ _ _ _ _ _ _ _ _ _ _ _ _ _ _ _ _ _ _ _ _ _ _ _ _ _ _ _ _ _ _ _ _ _ _ _ => xs.length - (RowKit.intOf i).toNat)
  case atStart => exact ⟨0, Nat.zero_le _, rfl, ⟨by omega⟩, ⟨Kd.N_nil _ _ _ _ _⟩, ⟨Below.refl _ _⟩⟩
  case round =>
    obtain ⟨k, hk, rfl, K201, NO, BR⟩ := hrel
    obtain ⟨wo, rfl⟩ : ∃ x, x = wr := ⟨_, rfl⟩
    by_cases hlt : k < xs.length
    · have g1 : decide ((k : Int) < (xs.length : Int)) = true := decide_eq_true (by omega)
      obtain ⟨ad, A1, c1, A2, c2, ea, h0, h1, q1, C1, q2, C2⟩ := at_two D0.out k hlt hlt
      subst ea
      have hB := fun (p : Addr) (v : Value) (h : w.cell? p = some v) => (BR.out.cell (World.block_lt_of_cell? _ _ h)).trans h
      have x0 := hB _ _ h0
      have x1 := hB _ _ h1
      clear hB h0 h1
      by_cases h200 : 200 < k
      · have e0 : decide ((200 : Int) < (k : Int)) = true := decide_eq_true (by omega)
        have HK : Aside0 (xs.take 201 = xs.take k) := ⟨by rw [show k = 201 by have := K201.out; omega]⟩
        as_aux_lemma =>
        go_wp2
        go_ret
        exact ⟨_, rfl, by rw [HK.out]; exact Kd.V_mono (Kd.V_alloc (Kd.N_V NO.out) _) (fun _ _ => trivial), below_alloc BR.out _⟩
      have e0 : decide ((200 : Int) < (k : Int)) = false := decide_eq_false (by omega)
      have NX : Aside0 (xs.take (k + 1) = xs.take k ++ [xs[k]]) := ⟨List.take_succ_eq_append_getElem hlt⟩
      have hz := HS.out _ (List.getElem_mem hlt)
      have EC1 := Aside0.mk C1
      have EC2 := Aside0.mk C2
      clear C1 C2
      generalize xs[k] = r at x0 x1 NX hz EC1 EC2 q1 q2
      obtain ⟨ss, ds⟩ := r
      dsimp only at x0 x1 EC1 EC2 hz q1 q2
      obtain ⟨hz1, hz2, hz3⟩ := hz
      have HZ3 := Aside0.mk hz3
      clear hz3
      have DC := Aside0.mk (fun W (hW : Below w.heap.size w W) => declsC ds hz2 A2 c2 q2 W (Kd.C_below EC2.out hW))
      have Y0 := Aside0.mk (fun (W : World) (hb : Below (wo.alloc (Obj.cells #[.slice A1 ss.length c1, .slice A2 ds.length c2] 115)).heap.size (wo.alloc (Obj.cells #[.slice A1 ss.length c1, .slice A2 ds.length c2] 115)) W) => box_cell hb (j := 0) rfl)
      go_wp2_with (first | (go_at_call 31; refine (DC.out _ (below_alloc BR.out _)).mono ?_; rintro e w2 ⟨vD, rfl, hR, hB⟩; have y0 := Y0.out _ hB; have RD := Aside0.mk hR; have B2 := Aside0.mk (one_below (Below.refl wo.heap.size wo) hB); obtain ⟨AD, cD, rfl, hcD, _⟩ := Kd.R_reads hR; have y0a := (World.cell?_alloc_lt w2 (Obj.cells #[.slice none 0 0, .slice AD ds.length cD] 113) _ (World.block_lt_of_cell? _ _ y0)).trans y0; clear hR hB))
      have HX0 := Aside0.mk (heap_alloc_new w2 (Obj.cells #[.slice none 0 0, .slice AD ds.length cD] 113))
      have BX0 := Aside0.mk (below_alloc B2.out (Obj.cells #[.slice none 0 0, .slice AD ds.length cD] 113))
      have TD0 := Aside0.mk (fun (b : Nat) (hb : (Value.slice AD ds.length cD).ownBlock = some b) => heap_alloc_old w2 (Obj.cells #[.slice none 0 0, .slice AD ds.length cD] 113) (Kd.R_lt RD.out b hb))
      have hw2 : wo.heap.size ≤ w2.heap.size := B2.out.size
      go_loopw [8, 9, 11, 29, 30, 31, 32, 33, 34, 35, 36, 37, 38, 39, 40, 41, 42, 43, 44, 45, 46, 47, 48, 49, 50, 51, 52, 53, 54, 55, 56] (fun _ _ _ i _ _ _ _ _ _ _ _ _ _ _ _ _ _ _ _ _ _ _ _ _ _ _ _ _ _ _ wx => ∃ (j : Nat) (vS : Value), j ≤ ss.length ∧ i = .int .i64 j ∧ Aside0 (wx.heap[w2.heap.size]? = some (.cells #[vS, .slice AD ds.length cD] 113 (0, 0))) ∧ Aside0 (Kd.N kSel 30 wx w.heap.size (fun k => (k < w.heap.size ∨ wo.heap.size ≤ k) ∧ k ≠ w2.heap.size) vS (ss.take j)) ∧ Aside0 (∀ b, (Value.slice AD ds.length cD).ownBlock = some b → wx.heap[b]? = w2.heap[b]?) ∧ Aside0 (Below wo.heap.size wo wx)) (fun _ _ _ i _ _ _ _ _ _ _ _ _ _ _ _ _ _ _ _ _ _ _ _ _ _ _ _ _ _ _ _ => ss.length - (RowKit.intOf i).toNat)
      case atStart => exact ⟨0, _, Nat.zero_le _, rfl, HX0, ⟨Kd.N_nil _ _ _ _ _⟩, TD0, BX0⟩
      case round =>
        clear HX0 BX0 TD0 y0a x0 x1
        obtain ⟨j, vS, hj, rfl, HX, NS, TD, BX⟩ := hrel
        obtain ⟨wx, rfl⟩ : ∃ x, x = wr := ⟨_, rfl⟩
        have BWX := Aside0.mk (below_then BR.out BR.out.size BX.out)
        have hwx : w2.heap.size < wx.heap.size := blk_lt HX.out
        by_cases hjl : j < ss.length
        · have g2 : decide ((j : Int) < (ss.length : Int)) = true := decide_eq_true (by omega)
          obtain ⟨b0, P1, p1, P2, p2, eb, m0, m1, qq1, G1, qq2, G2⟩ := at_two EC1.out j hjl hjl
          subst eb
          have hB := fun (p : Addr) (v : Value) (h : w.cell? p = some v) => (BWX.out.cell (World.block_lt_of_cell? _ _ h)).trans h
          have y0 := hB _ _ m0
          have y1 := hB _ _ m1
          have SNX : Aside0 (ss.take (j + 1) = ss.take j ++ [ss[j]]) := ⟨List.take_succ_eq_append_getElem hjl⟩
          have hz3 := HZ3.out _ (List.getElem_mem hjl)
          have FP := Aside0.mk (Kd.C_F heap_Smp G1)
          have FB := Aside0.mk (Kd.C_F Kd.heap_bool G2)
          clear m0 m1 hB G1 G2
          generalize ss[j] = s at y0 y1 SNX hz3 FP FB qq1 qq2
          obtain ⟨ps, bs⟩ := s
          dsimp only at y0 y1 hz3 FP FB qq1 qq2
          go_wp2
          have sz8 : (wx.alloc (Obj.cells #[.slice P1 ps.length p1, .slice P2 bs.length p2] 25)).heap.size = wx.heap.size + 1 := World.size_alloc _ _
          have HY0 := Aside0.mk (heap_alloc_new (wx.alloc (Obj.cells #[.slice P1 ps.length p1, .slice P2 bs.length p2] 25)) (Obj.cells #[.slice none 0 0, .slice P2 bs.length p2] 30))
          rw [sz8] at HY0
          have BY0 := Aside0.mk (below_alloc (below_alloc (Below.refl wx.heap.size wx) (Obj.cells #[.slice P1 ps.length p1, .slice P2 bs.length p2] 25)) (Obj.cells #[.slice none 0 0, .slice P2 bs.length p2] 30))
          clear sz8 y0 y1
          go_loopw [11, 39, 40, 41, 42, 43, 44, 45, 46, 47, 48, 49] (fun _ i _ _ _ _ _ _ _ _ _ _ wy => ∃ (i' : Nat) (vP : Value), i' ≤ ps.length ∧ i = .int .i64 i' ∧ Aside0 (wy.heap[wx.heap.size + 1]? = some (.cells #[vP, .slice P2 bs.length p2] 30 (0, 0))) ∧ Aside0 (Kd.N kSmp 79 wy w.heap.size (fun k => (k < w.heap.size ∨ wx.heap.size ≤ k) ∧ k ≠ wx.heap.size + 1) vP (ps.take i')) ∧ Aside0 (Below wx.heap.size wx wy)) (fun _ i _ _ _ _ _ _ _ _ _ _ _ => ps.length - (RowKit.intOf i).toNat)
          case atStart => exact ⟨0, _, Nat.zero_le _, rfl, HY0, ⟨Kd.N_nil _ _ _ _ _⟩, BY0⟩
          case round =>
            clear HY0 BY0
            obtain ⟨i', vP, hi, rfl, HY, NP, BY⟩ := hrel
            obtain ⟨wy, rfl⟩ : ∃ x, x = wr := ⟨_, rfl⟩
            have BWY := Aside0.mk (below_then BWX.out BWX.out.size BY.out)
            have hwy : wx.heap.size + 1 < wy.heap.size := blk_lt HY.out
            have hy0 : wy.cell? ⟨wx.heap.size + 1, 0, none⟩ = some vP := (blk_cell HY.out 0).trans rfl
            have NPB := Aside0.mk (Kd.N_base NP.out)
            have NPX := Aside0.mk (fun (b : Nat) (hb : vP.ownBlock = some b) => (by have h1 := NP.out.1 b hb; have h2 := NPB.out b hb; rcases h1.1 with h3 | h3 <;> omega : wx.heap.size ≤ b))
            by_cases hil : i' < ps.length
            · have g3 : decide ((i' : Int) < (ps.length : Int)) = true := decide_eq_true (by omega)
              obtain ⟨b1, U1v, u1v, U2v, u2v, eb1, m0, m1, m2, m3, m4, FE⟩ := at_SmpF FP.out i' hil hil
              subst eb1
              have hB := fun (p : Addr) (v : Value) (h : w.cell? p = some v) => (BWY.out.cell (World.block_lt_of_cell? _ _ h)).trans h
              have y0 := hB _ _ m0
              have y1 := hB _ _ m1
              have y2 := hB _ _ m2
              have y3 := hB _ _ m3
              have y4 := hB _ _ m4
              have PNX : Aside0 (ps.take (i' + 1) = ps.take i' ++ [ps[i']]) := ⟨List.take_succ_eq_append_getElem hil⟩
              have FEE := Aside0.mk FE
              clear m0 m1 m2 m3 m4 hB FE
              generalize ps[i'] = x at y0 y1 y2 y3 y4 PNX FEE
              have hy0a := (World.cell?_alloc_lt wy (Obj.cells #[.string x.1, .slice U1v x.2.1.length u1v, .slice U2v x.2.2.1.length u2v, .bool x.2.2.2.1, .bool x.2.2.2.2] 80) _ (World.block_lt_of_cell? _ _ hy0)).trans hy0
              have NPA := Aside0.mk (Kd.N_alloc NP.out (Obj.cells #[.string x.1, .slice U1v x.2.1.length u1v, .slice U2v x.2.2.1.length u2v, .bool x.2.2.2.1, .bool x.2.2.2.2] 80))
              have BWA := Aside0.mk (below_alloc BWY.out (Obj.cells #[.string x.1, .slice U1v x.2.1.length u1v, .slice U2v x.2.2.1.length u2v, .bool x.2.2.2.1, .bool x.2.2.2.2] 80))
              have BYA := Aside0.mk (below_alloc BY.out (Obj.cells #[.string x.1, .slice U1v x.2.1.length u1v, .slice U2v x.2.2.1.length u2v, .bool x.2.2.2.1, .bool x.2.2.2.2] 80))
              have HYA := Aside0.mk (blk_alloc HY.out (Obj.cells #[.string x.1, .slice U1v x.2.1.length u1v, .slice U2v x.2.2.1.length u2v, .bool x.2.2.2.1, .bool x.2.2.2.2] 80))
              have SZA := Aside0.mk (World.size_alloc wy (Obj.cells #[.string x.1, .slice U1v x.2.1.length u1v, .slice U2v x.2.2.1.length u2v, .bool x.2.2.2.1, .bool x.2.2.2.2] 80))
              have hwW := BWX.out.size
              go_wp2_with (first | ((with_reducible refine gate_builtin (b := .append) (xs := #[.tmp 44, .tmp 46]) rfl ?_); at_builtin; refine Kd.N_append kSmp (w0 := w) w.heap.size rfl (.tmp 44) (.tmp 46) 28 79 (.agg #[.string ⟨#[]⟩, .slice none 0 0, .slice none 0 0, .bool false, .bool false]) 72 rfl Tryz.underlying28 infoS rfl (by decide) (by omega) vP (ps.take i') x [.string x.1, .slice U1v x.2.1.length u1v, .slice U2v x.2.2.1.length u2v, .bool x.2.2.2.1, .bool x.2.2.2.2] (fun k => (k < w.heap.size ∨ wx.heap.size ≤ k) ∧ k ≠ wx.heap.size + 1) (fun k => k < w.heap.size) rfl (by first | (go_simp; done) | (go_simp; rfl)) (Kd.FK_step FEE.out (fun k hk _ => BWA.out.block k hk)) (fun k hk => ⟨⟨.inl hk, by omega⟩, fun e => by have := NPB.out k e.symm; omega⟩) (fun k hk => ⟨.inr (by have := SZA.out; omega), by have := SZA.out; omega⟩) NPA.out BWA.out BWA.out.size (by rw [List.length_take]; omega) ?_; intro v11 w11 ho hb hg hat; obtain ⟨A11, c11, hv0⟩ := Kd.V_slice (Kd.N_V (base' := 0) ho); have hv11 : v11 = .slice A11 (i' + 1) c11 := hv0.trans (by rw [List.length_append, List.length_take, Nat.min_eq_left (Nat.le_of_lt hil)]; rfl); clear hv0; subst hv11; have NN := Aside0.mk ho; have BN := Aside0.mk hb; have HY2 := Aside0.mk (blk_grown HYA.out hg (Kd.N_ne NPA.out HYA.out (by decide))); have BX2 := Aside0.mk (pw_below_grown BYA.out vP.ownBlock BYA.out.size hg (fun k hk => NPX.out k hk)); have kc := (blk_cell HY2.out 0).trans rfl; have kf := blk_frozen HY2.out 0; clear ho hb hg hat))
              exact ⟨⟨i' + 1, _, by omega, by go_num, ⟨blk_put HY2.out 0 _ rfl⟩, ⟨by rw [PNX.out]; exact Kd.N_far (p := ⟨wx.heap.size + 1, 0, none⟩) NN.out (fun k hk => hk.2) _⟩, ⟨BX2.out.setCell (p := ⟨wx.heap.size + 1, 0, none⟩) (by show wx.heap.size ≤ wx.heap.size + 1; omega) _⟩⟩, by simp [RowKit.intOf]; omega⟩
            · obtain rfl : i' = ps.length := by omega
              have g3 : decide ((ps.length : Int) < (ps.length : Int)) = false := decide_eq_false (by omega)
              have NP2 := NP.out
              rw [List.take_length] at NP2
              have NPF := Aside0.mk NP2
              clear NP2 NP
              have hs0 : wy.cell? ⟨w2.heap.size, 0, none⟩ = some vS := (blk_cell (blk_below HX.out BY.out) 0).trans rfl
              have hyc : wy.cell? ⟨wx.heap.size + 1, 1, none⟩ = some (Value.slice P2 bs.length p2) := (blk_cell HY.out 1).trans rfl
              have NSB := Aside0.mk (Kd.N_base NS.out)
              have NSL := Aside0.mk (Kd.N_lt NS.out)
              have NSA := Aside0.mk (Kd.N_below NS.out BY.out)
              have HXA := Aside0.mk (blk_below HX.out BY.out)
              have hwW := BWX.out.size
              have hwo := BR.out.size
              have hxo := BX.out.size
              have FVP := Aside0.mk (Kd.V_mono (ok' := fun k => k < w.heap.size ∨ wx.heap.size ≤ k) (Kd.N_V (base' := w.heap.size) NPF.out) (fun k hk => hk.1))
              have FVB : Aside0 (Kd.V Kd.bool 4 wy w.heap.size (fun k => k < w.heap.size ∨ wx.heap.size ≤ k) (.slice P2 bs.length p2) bs) := ⟨Kd.V_mono (Kd.V_mk qq2 (Kd.F_step FB.out (fun k hk _ => BWY.out.block k hk))) (fun k hk => .inl hk)⟩
              have BXY := Aside0.mk (below_then BX.out BX.out.size BY.out)
              obtain ⟨AP, cP, hvP⟩ := Kd.V_slice FVP.out
              subst hvP
              go_wp2_with (first | ((with_reducible refine gate_builtin (b := .append) (xs := #[.tmp 51, .tmp 53]) rfl ?_); at_builtin; refine Kd.N_append kSel (w0 := w) w.heap.size rfl (.tmp 51) (.tmp 53) 39 30 (.agg #[.slice none 0 0, .slice none 0 0]) 48 rfl Tryz.underlying39 infoE rfl (by decide) (by omega) vS (ss.take j) (ps, bs) [.slice AP ps.length cP, .slice P2 bs.length p2] (fun k => (k < w.heap.size ∨ wo.heap.size ≤ k) ∧ k ≠ w2.heap.size) (fun k => k < w.heap.size ∨ wx.heap.size ≤ k) rfl (by first | (go_simp; done) | (go_simp; rfl)) (FK_two FVP.out FVB.out) (fun k hk => ⟨⟨by rcases hk with hk | hk <;> omega, by rcases hk with hk | hk <;> omega⟩, fun e => by have := NSB.out k e.symm; have := NSL.out k e.symm; rcases hk with hk | hk <;> omega⟩) (fun k hk => ⟨.inr (by omega), by omega⟩) NSA.out BWY.out BWY.out.size (by rw [List.length_take]; omega) ?_; intro v12 w12 ho hb hg hat; obtain ⟨A12, c12, hv0⟩ := Kd.V_slice (Kd.N_V (base' := 0) ho); have hv12 : v12 = .slice A12 (j + 1) c12 := hv0.trans (by rw [List.length_append, List.length_take, Nat.min_eq_left (Nat.le_of_lt hjl)]; rfl); clear hv0; subst hv12; have NN := Aside0.mk ho; have HX2 := Aside0.mk (blk_grown HXA.out hg (Kd.N_ne NSA.out HXA.out (by decide))); have TD2 := Aside0.mk (fun (b : Nat) (hb : (Value.slice AD ds.length cD).ownBlock = some b) => (by
                  obtain ⟨cells, hcl⟩ := own_typed_R RD.out b hb
                  have e1 := (BY.out.block b (by have := heap_lt2 (TD.out b hb) (blk_lt hcl); exact this)).trans ((TD.out b hb).trans hcl)
                  exact ((hg.block b (blk_lt e1) (Kd.N_ne NSA.out e1 (by decide))).trans e1).trans hcl.symm : w12.heap[b]? = w2.heap[b]?)); have BX2 := Aside0.mk (pw_below_grown BXY.out vS.ownBlock BXY.out.size hg (fun k hk => by have h1 := NS.out.1 k hk; have h2 := NSB.out k hk; rcases h1.1 with h3 | h3 <;> omega)); have kc := (blk_cell HX2.out 0).trans rfl; have kf := blk_frozen HX2.out 0; clear ho hb hg hat))
              exact ⟨⟨j + 1, _, by omega, by go_num, ⟨blk_put HX2.out 0 _ rfl⟩, ⟨by rw [SNX.out]; exact Kd.N_far (p := ⟨w2.heap.size, 0, none⟩) NN.out (fun k hk => hk.2) _⟩, ⟨fun b hb => (Below.heap_setCell _ ⟨w2.heap.size, 0, none⟩ _ b (fun e => by
                obtain ⟨cells, hcl⟩ := own_typed_R RD.out b hb
                have := blk_lt hcl
                have e2 : b = w2.heap.size := e
                omega)).trans (TD2.out b hb)⟩, ⟨BX2.out.setCell (p := ⟨w2.heap.size, 0, none⟩) (by show wo.heap.size ≤ w2.heap.size; omega) _⟩⟩, by simp [RowKit.intOf]; omega⟩
        · obtain rfl : j = ss.length := by omega
          have g2 : decide ((ss.length : Int) < (ss.length : Int)) = false := decide_eq_false (by omega)
          have NS2 := NS.out
          rw [List.take_length] at NS2
          have NOB := Aside0.mk (Kd.N_base NO.out)
          have NOL := Aside0.mk (Kd.N_lt NO.out)
          have NOA := Aside0.mk (Kd.N_below NO.out BX.out)
          have VS := Aside0.mk (Kd.V_mono (ok' := fun k => k < w.heap.size ∨ wo.heap.size ≤ k) (Kd.N_V (base' := w.heap.size) NS2) (fun k hk => hk.1))
          have VD := Aside0.mk (Kd.V_mono (ok' := fun k => k < w.heap.size ∨ wo.heap.size ≤ k) (V_of_R (base' := w.heap.size) RD.out TD.out) (fun k hk => by
            have h1 := Kd.R_base RD.out k hk
            rw [World.size_alloc] at h1
            exact .inr (by omega)))
          have hs0 : wx.cell? ⟨w2.heap.size, 0, none⟩ = some vS := (blk_cell HX.out 0).trans rfl
          have hs1 : wx.cell? ⟨w2.heap.size, 1, none⟩ = some (Value.slice AD ds.length cD) := (blk_cell HX.out 1).trans rfl
          clear NS2 NS
          have hwo := BR.out.size
          obtain ⟨AS, cS, hvS⟩ := Kd.V_slice VS.out
          subst hvS
          have QK := Aside0.mk (FK_two (base := w.heap.size) (x := ((ss, ds) : Rl)) VS.out VD.out : Kd.FK kRl wx (fun k => k < w.heap.size ∨ wo.heap.size ≤ k) (ss, ds) [.slice AS ss.length cS, .slice AD ds.length cD])
          have QO := Aside0.mk (fun (k : Nat) (hk : k < w.heap.size ∨ wo.heap.size ≤ k) => (⟨trivial, fun e => by have := NOB.out k e.symm; have := NOL.out k e.symm; rcases hk with hk | hk <;> omega⟩ : True ∧ some k ≠ (u3 : Value).ownBlock))
          go_wp2_with (first | ((with_reducible refine gate_builtin (b := .append) (xs := #[.tmp 57, .tmp 59]) rfl ?_); at_builtin; refine Kd.N_append kRl (w0 := w) w.heap.size rfl (.tmp 57) (.tmp 59) 52 113 (.agg #[.slice none 0 0, .slice none 0 0]) 48 rfl Tryz.underlying52 infoU rfl (by decide) (by omega) u3 (xs.take k) (ss, ds) [.slice AS ss.length cS, .slice AD ds.length cD] (fun _ => True) (fun k => k < w.heap.size ∨ wo.heap.size ≤ k) rfl (by first | (go_simp; done) | (go_simp; rfl)) QK.out QO.out (fun k hk => trivial) NOA.out BWX.out BWX.out.size (by rw [List.length_take]; omega) ?_; intro v13 w13 ho hb hg hat; have NN := Aside0.mk ho; have BN := Aside0.mk hb; clear ho hb hg hat))
          exact ⟨⟨k + 1, by omega, by go_num, ⟨by omega⟩, ⟨by rw [NX.out]; exact NN.out⟩, BN⟩, by simp [RowKit.intOf]; omega⟩
    · obtain rfl : k = xs.length := by omega
      have g1 : decide ((xs.length : Int) < (xs.length : Int)) = false := decide_eq_false (by omega)
      have HK : Aside0 (xs.take 201 = xs.take xs.length) := ⟨by rw [List.take_length, List.take_of_length_le K201.out]⟩
      go_wp2
      go_ret
      exact ⟨_, rfl, by rw [HK.out]; exact Kd.V_mono (Kd.N_V NO.out) (fun _ _ => trivial), BR.out⟩
end Go.Proofs.YtolfpgccebdlpaaGreatDoor.Shn
set_option linter.unusedVariables false
set_option linter.unusedSimpArgs false
namespace Go.Proofs.YtolfpgccebdlpaaGreatDoor.Pure
open Go.RowKit Go.Proofs.YtolfpgccebdlpaaGreatDoor.HT Go.Proofs.YtolfpgccebdlpaaGreatDoorW.PrintWords Go.Proofs.YtolfpgccebdlpaaGreatDoorW.PrintLast Go.Proofs.YtolfpgccebdlpaaGreatDoorW.PrintMore Go.Proofs.Scn Go.Proofs.Tok
theorem w64 {n : Int} (h1 : -9223372036854775808 ≤ n) (h2 : n ≤ 9223372036854775807) : wrap64 n = n := by unfold wrap64; omega
theorem w64s (i : Nat) (h : i < 100000000) : wrap64 ((i : Int) + 1) = ((i + 1 : Nat) : Int) := by rw [w64 (by omega) (by omega)]; omega
theorem _root_.Go.Proofs.YtolfpgccebdlpaaGreatDoorW.PrintWords.Ev.eq {α : Type} {g : Nat → Option α} {a b : α} (h : Ev g a) (e : a = b) : Ev g b := e ▸ h
theorem toL (s : ByteArray) : s.toList = s.data.toList := Lib.toList_data s
theorem sz (s : ByteArray) : s.size = s.data.toList.length := Lib.size_eq s
/-- what stands from a place on -/
theorem drop_at {s : ByteArray} {i : Nat} {c : UInt8} {t : List UInt8} (h : s.data.toList.drop i = c :: t) : i < s.size ∧ bt s (i : Int) = (c.toNat : Int) ∧ s.data.toList.drop (i + 1) = t := by
  have hl : i < s.data.toList.length := by
    apply Nat.lt_of_not_le
    intro hh
    rw [List.drop_eq_nil_of_le hh] at h
    cases h
  have h2 : i < s.size := by rw [sz]; exact hl
  have h3 : s.data.toList[i] = c ∧ s.data.toList.drop (i + 1) = t := by
    rw [List.drop_eq_getElem_cons hl] at h
    exact List.cons.inj h
  refine ⟨h2, ?_, h3.2⟩
  unfold bt
  rw [dif_pos (by rw [Int.toNat_natCast]; exact h2)]
  congr 2
  rw [← h3.1]
  simp [ByteArray.getElem_eq_getElem_data]
theorem ext_data (s : ByteArray) (a b : Nat) : (s.extract a b).data.toList = (s.data.toList.drop a).take (b - a) := by
  rw [ByteArray.data_extract, Array.toList_extract]
theorem ext_to (s : ByteArray) (a : Nat) : (s.extract a s.size).data.toList = s.data.toList.drop a := by
  rw [ext_data, List.take_of_length_le]
  rw [List.length_drop, ← sz]
  exact Nat.le_refl _
theorem rdOf_at {l : List ByteArray} {i : Nat} (h : i < l.length) : rdOf ByteArray.empty l (i : Int) = l[i] := by
  unfold rdOf
  rw [Int.toNat_natCast, List.getD, List.getElem?_eq_getElem h]
  rfl
/-! ### marked -/
abbrev ms : List UInt8 := [35, 46, 58]
abbrev isM (c : UInt8) : Bool := ms.contains c
def mk : List UInt8 → List UInt8 → List (List UInt8)
  | cur, [] => [cur]
  | cur, c :: t => if isM c = true then cur :: mk [c] t else mk (cur ++ [c]) t
def mkA : List UInt8 → List (List UInt8)
  | [] => [[]]
  | c :: t => mk [c] t
theorem mk_hit {c : UInt8} {cur t : List UInt8} (h : isM c = true) : mk cur (c :: t) = cur :: mk [c] t := by rw [mk, if_pos h]
theorem mk_go {c : UInt8} {cur t : List UInt8} (h : isM c = false) : mk cur (c :: t) = mk (cur ++ [c]) t := by rw [mk, h]; rfl
theorem mk_word {t : List UInt8} : ∀ {p cur : List UInt8}, (∀ c ∈ p, isM c = false) → mk cur (p ++ t) = mk (cur ++ p) t
  | [], cur, _ => by simp
  | c :: p, cur, h => by
    rw [List.cons_append, mk_go (h c (by simp)), mk_word fun d hd => h d (by simp [hd])]
    simp
theorem mk_len : ∀ (l cur : List UInt8), (mk cur l).length ≤ l.length + 1
  | [], cur => by simp [mk]
  | c :: t, cur => by
    cases h : isM c with
    | true => rw [mk_hit h]; have := mk_len t [c]; simp; omega
    | false => rw [mk_go h]; have := mk_len t (cur ++ [c]); simp; omega
/-- each piece but the first begins with a mark; each is as long as the text at most -/
theorem mk_pieces : ∀ (l cur : List UInt8), cur ≠ [] → ∀ p ∈ mk cur l, p ≠ [] ∧ p.length ≤ cur.length + l.length
  | [], cur, h, p, hp => by
    rw [mk, List.mem_singleton] at hp
    subst hp
    exact ⟨h, by simp⟩
  | c :: t, cur, h, p, hp => by
    cases hc : isM c with
    | true =>
      rw [mk_hit hc] at hp
      rcases List.mem_cons.1 hp with rfl | hp
      · exact ⟨h, by simp⟩
      · have := mk_pieces t [c] (by simp) p hp
        exact ⟨this.1, by have := this.2; simp at this ⊢; omega⟩
    | false =>
      rw [mk_go hc] at hp
      have := mk_pieces t (cur ++ [c]) (by simp) p hp
      exact ⟨this.1, by have := this.2; simp at this ⊢; omega⟩
theorem iAny (s : ByteArray) (h : s.size ≤ 1000000) : strings_IndexAny.f s ⟨#[35, 46, 58]⟩ = some (Lib.indexAny s.data.toList ms) := by
  unfold strings_IndexAny.f
  rw [if_pos (by omega), if_pos (by decide), if_pos (by decide), if_pos (by decide)]
theorem rMarked : ∀ (n : Nat) (s : ByteArray) (x3 : List ByteArray), s.size ≤ n → n ≤ 100000 → x3.length + n ≤ 1000000 → Ev (fun k => selector_marked.l0 k s x3) (x3 ++ (mkA s.data.toList).map ba)
  | n, s, x3, hn, hm, hx => by
    cases hL : s.data.toList with
    | nil =>
      have h0 : s.size = 0 := by rw [sz, hL]; rfl
      have e : s.extract (mn 1 (s.size : Int)).toNat s.size = s := ba_ext (by rw [ext_to, hL]; simp)
      refine Ev.step (f := fun k => some (x3 ++ [s])) (fun k => ?_) ((Ev.now _).eq ?_)
      · rw [selector_marked.l0, if_pos (by unfold mn; split <;> omega), if_pos (by unfold mn; split <;> omega), e, iAny s (by omega), hL, show Lib.indexAny [] ms = -1 from rfl, Option.bind_some, if_pos (by decide), if_pos (by omega)]
      · rw [mkA]
        simp only [List.map_cons, List.map_nil]
        rw [← hL, data_ba]
    | cons c t =>
      have h1 : s.size = t.length + 1 := by rw [sz, hL]; rfl
      have hmn : mn 1 (s.size : Int) = 1 := by unfold mn; rw [if_neg (by omega)]
      have hx1 : (s.extract 1 s.size).data.toList = t := by rw [ext_to, hL]; rfl
      rcases any_spec ms t with ⟨g1, g2⟩ | ⟨p, b, u, g1, g2, g3, g4⟩
      · refine Ev.step (f := fun k => some (x3 ++ [s])) (fun k => ?_) ((Ev.now _).eq ?_)
        · rw [selector_marked.l0, hmn, if_pos (by omega), if_pos (by omega), show (1 : Int).toNat = 1 from rfl, iAny _ (by rw [sz, hx1]; omega), hx1, g1, Option.bind_some, if_pos (by decide), if_pos (by omega)]
        · have e := mk_word (t := []) (p := t) (cur := [c]) g2
          rw [List.append_nil] at e
          rw [mkA, e, mk]
          simp only [List.map_cons, List.map_nil, List.singleton_append]
          rw [← hL, data_ba]
      · have hlen : t.length = p.length + (u.length + 1) := by rw [g1]; simp
        have e1 : (s.extract (p.length + 1) s.size).data.toList = b :: u := by rw [ext_to, hL, g1]; simp
        have e2 : s.extract 0 (p.length + 1) = ba (c :: p) := ba_ext (by rw [ext_data, ba_data, hL, g1]; simp)
        have ew : wrap64 ((p.length : Int) + 1) = ((p.length + 1 : Nat) : Int) := w64s _ (by omega)
        cases n with
        | zero => omega
        | succ n =>
          refine Ev.step (f := fun k => selector_marked.l0 k (s.extract (p.length + 1) s.size) (x3 ++ [ba (c :: p)])) (fun k => ?_) ((rMarked n (s.extract (p.length + 1) s.size) (x3 ++ [ba (c :: p)]) (by rw [sz, e1]; simp; omega) (by omega) (by simp; omega)).eq ?_)
          · rw [selector_marked.l0, hmn, if_pos (by omega), if_pos (by omega), show (1 : Int).toNat = 1 from rfl, iAny _ (by rw [sz, hx1]; omega), hx1, g4, Option.bind_some, if_neg (by omega), ew, if_pos (by omega), if_pos (by omega), if_pos (by omega), Int.toNat_natCast, e2]
          · rw [e1, g1, mkA, mkA, mk_word g2, mk_hit g3]
            simp
/-! ### simple -/
def it (x : S80) : Smp := (x.f0, x.f1, x.f2, x.f3, x.f4)
abbrev R6 := ByteArray × List ByteArray × List ByteArray × Bool × Bool × Bool
def z6 : R6 := (⟨#[]⟩, [], [], false, false, false)
def smF : List ByteArray → ByteArray → List ByteArray → List ByteArray → Bool → Bool → Option Smp
  | [], t, i, c, l, v => some (t, i, c, l, v)
  | p :: r, t, i, c, l, v => if p.data.toList = [58, 108, 105, 110, 107] then smF r t i c true v else if p.data.toList = [58, 118, 105, 115, 105, 116, 101, 100] then smF r t i c l true else if bt p 0 = 35 then smF r t (i ++ [p.extract 1 p.size]) c l v else if bt p 0 = 46 then smF r t i (c ++ [p.extract 1 p.size]) l v else none
def finT (n : Nat) : Option Smp → R6
  | none => z6
  | some x => (x.1, x.2.1, x.2.2.1, x.2.2.2.1, x.2.2.2.2, decide (n ≤ 8) && mayX x)
def simT (w : ByteArray) : R6 := match w.data.toList with
  | [] => z6
  | c :: t => if isM c = true then finT (mk [c] t).length (smF ((mk [c] t).map ba) ⟨#[]⟩ [] [] false false) else
      finT ((mk [c] t).length - 1) (smF (((mk [c] t).map ba).drop 1) (if (mk [c] t).headD [] = [42] then ⟨#[]⟩ else ba ((mk [c] t).headD [])) [] [] false false)
theorem may_f (t : ByteArray) (i c : List ByteArray) (l v : Bool) (h : (i.length + c.length) ≤ 1000000) (ht : t.size ≤ 100000) (hs : ∀ s ∈ i ++ c, s.size ≤ 100000) : selector_Simple_may.f t i c l v = some (mayX (t, i, c, l, v)) := by
  unfold selector_Simple_may.f
  rw [if_pos]
  · rfl
  · exact ⟨by show (i.length + c.length) * 16 ≤ _; omega, by show t.size < _; omega, fun s h => by have := hs s h; show s.size < _; omega⟩
theorem rSim_l (P : List ByteArray) (hP : P.length ≤ 100001) (hs : ∀ p ∈ P, 1 ≤ p.size ∧ p.size ≤ 100000) (t : ByteArray) (ht : t.size ≤ 100000) : ∀ (d n : Nat) (i c : List ByteArray) (l v : Bool), n + d = P.length → i.length ≤ n → c.length ≤ n → (∀ s ∈ i ++ c, s.size ≤ 100000) →
    Ev (fun k => selector_simple.l0 k (n : Int) P (P.length : Int) (n : Int) t i c l v) (finT P.length (smF (P.drop n) t i c l v))
  | 0, n, i, c, l, v, h, hi, hc, hz => by
    obtain rfl : n = P.length := by omega
    rw [List.drop_length, smF]
    by_cases h8 : P.length ≤ 8
    · refine Ev.step (f := fun k => some (t, i, c, l, v, mayX (t, i, c, l, v))) (fun k => ?_) ((Ev.now _).eq ?_)
      · rw [selector_simple.l0, if_neg (by omega), if_pos (by omega), may_f t i c l v (by omega) ht hz, Option.bind_some]
      · rw [finT, decide_eq_true h8, Bool.true_and]
    · refine Ev.step (f := fun k => some (t, i, c, l, v, false)) (fun k => ?_) ((Ev.now _).eq ?_)
      · rw [selector_simple.l0, if_neg (by omega), if_neg (by omega)]
      · rw [finT, decide_eq_false h8, Bool.false_and]
  | d + 1, n, i, c, l, v, h, hi, hc, hz => by
    have hn : n < P.length := by omega
    have hp := hs P[n] (List.getElem_mem hn)
    have hd : P.drop n = P[n] :: P.drop (n + 1) := List.drop_eq_getElem_cons hn
    have hx : (P[n].extract 1 P[n].size).size ≤ 100000 := by rw [sz, ext_to, List.length_drop, ← sz]; omega
    have ew := w64s n (by omega)
    rw [hd]
    by_cases c1 : P[n].data.toList = [58, 108, 105, 110, 107]
    · refine Ev.step (fun k => ?_) ((rSim_l P hP hs t ht d (n + 1) i c true v (by omega) (by omega) (by omega) hz).eq (by rw [smF, if_pos c1]))
      rw [selector_simple.l0, if_pos (by omega), if_pos (by omega), if_pos (by omega), rdOf_at hn, if_pos (by omega), toL, if_pos c1, ew]
    by_cases c2 : P[n].data.toList = [58, 118, 105, 115, 105, 116, 101, 100]
    · refine Ev.step (fun k => ?_) ((rSim_l P hP hs t ht d (n + 1) i c l true (by omega) (by omega) (by omega) hz).eq (by rw [smF, if_neg c1, if_pos c2]))
      rw [selector_simple.l0, if_pos (by omega), if_pos (by omega), if_pos (by omega), rdOf_at hn, if_pos (by omega), toL, if_neg c1, if_pos c2, ew]
    by_cases c3 : bt P[n] 0 = 35
    · refine Ev.step (fun k => ?_) ((rSim_l P hP hs t ht d (n + 1) (i ++ [P[n].extract 1 P[n].size]) c l v (by omega) (by simp; omega) (by omega) (by
        intro s hm
        rcases List.mem_append.1 hm with hm | hm
        · rcases List.mem_append.1 hm with hm | hm
          · exact hz s (List.mem_append_left _ hm)
          · rw [List.mem_singleton.1 hm]; exact hx
        · exact hz s (List.mem_append_right _ hm))).eq (by rw [smF, if_neg c1, if_neg c2, if_pos c3]))
      rw [selector_simple.l0, if_pos (by omega), if_pos (by omega), if_pos (by omega), rdOf_at hn, if_pos (by omega), toL, if_neg c1, if_neg c2, if_pos (by omega), if_pos c3, if_pos (by omega), ew]
    by_cases c4 : bt P[n] 0 = 46
    · refine Ev.step (fun k => ?_) ((rSim_l P hP hs t ht d (n + 1) i (c ++ [P[n].extract 1 P[n].size]) l v (by omega) (by omega) (by simp; omega) (by
        intro s hm
        rw [← List.append_assoc] at hm
        rcases List.mem_append.1 hm with hm | hm
        · exact hz s hm
        · rw [List.mem_singleton.1 hm]; exact hx)).eq (by rw [smF, if_neg c1, if_neg c2, if_neg c3, if_pos c4]))
      rw [selector_simple.l0, if_pos (by omega), if_pos (by omega), if_pos (by omega), rdOf_at hn, if_pos (by omega), toL, if_neg c1, if_neg c2, if_pos (by omega), if_neg c3, if_pos c4, if_pos (by omega), ew]
    refine Ev.step (f := fun k => some z6) (fun k => ?_) ((Ev.now _).eq (by rw [smF, if_neg c1, if_neg c2, if_neg c3, if_neg c4]; rfl))
    rw [selector_simple.l0, if_pos (by omega), if_pos (by omega), if_pos (by omega), rdOf_at hn, if_pos (by omega), toL, if_neg c1, if_neg c2, if_pos (by omega), if_neg c3, if_neg c4]
    rfl
theorem rByte (c : UInt8) : strings_IndexByte.f ⟨#[35, 46, 58]⟩ (c.toNat : Int) = some (Lib.indexByte ms c) ∧ decide (Lib.indexByte ms c < 0) = !isM c := by
  have h : ((List.range 256).all fun n => decide (strings_IndexByte.f ⟨#[35, 46, 58]⟩ (n : Int) = some (Lib.indexByte ms (UInt8.ofNat n))) && decide (decide (Lib.indexByte ms (UInt8.ofNat n) < 0) = !isM (UInt8.ofNat n))) = true := by kernel_rfl
  have h2 := List.all_eq_true.1 h c.toNat (List.mem_range.2 c.toNat_lt)
  rw [Bool.and_eq_true] at h2
  have h3 := of_decide_eq_true h2.1
  have h4 := of_decide_eq_true h2.2
  simp at h3 h4
  exact ⟨h3, by simpa using h4⟩
theorem mk_ne (l cur : List UInt8) : ∃ a r, mk cur l = a :: r := by
  induction l generalizing cur with
  | nil => exact ⟨cur, [], rfl⟩
  | cons c t ih =>
    cases h : isM c with
    | true => exact ⟨cur, _, mk_hit h⟩
    | false => rw [mk_go h]; exact ih _
theorem rSimple (w : ByteArray) (hw : w.size ≤ 100000) : Ev (fun k => selector_simple.f k w) (simT w) := by
  cases hL : w.data.toList with
  | nil =>
    refine Ev.congr (f := fun k => some z6) (fun k => ?_) ((Ev.now _).eq (by unfold simT; rw [hL]))
    rw [selector_simple.f, if_pos (by rw [toL, hL])]
    rfl
  | cons c t =>
    have h1 : w.size = t.length + 1 := by rw [sz, hL]; rfl
    obtain ⟨_, hb, _⟩ := drop_at (s := w) (i := 0) (c := c) (t := t) (by rw [List.drop_zero, hL])
    have hb0 : bt w 0 = (c.toNat : Int) := hb
    have hm := rMarked w.size w [] (Nat.le_refl _) hw (by simp; omega)
    rw [hL, mkA, List.nil_append] at hm
    have hlen := mk_len t [c]
    have hpc := mk_pieces t [c] (by simp)
    have hsim : simT w = if isM c = true then finT (mk [c] t).length (smF ((mk [c] t).map ba) ⟨#[]⟩ [] [] false false) else finT ((mk [c] t).length - 1) (smF (((mk [c] t).map ba).drop 1) (if (mk [c] t).headD [] = [42] then ⟨#[]⟩ else ba ((mk [c] t).headD [])) [] [] false false) := by
      unfold simT; rw [hL]
    rw [hsim]
    obtain ⟨a, r, hmk⟩ := mk_ne t [c]
    generalize hP : (mk [c] t).map ba = P at hm ⊢
    have hPl : P.length = (mk [c] t).length := by rw [← hP, List.length_map]
    have hPs : ∀ p ∈ P, 1 ≤ p.size ∧ p.size ≤ 100000 := by
      intro p hp
      rw [← hP] at hp
      obtain ⟨q, hq, rfl⟩ := List.mem_map.1 hp
      have := hpc q hq
      rw [sz, ba_data]
      have h2 := this.2
      have h3 : q.length ≠ 0 := fun e => this.1 (List.length_eq_zero_iff.1 e)
      simp at h2
      omega
    have hnn : ¬ w.toList = [] := by rw [toL, hL]; simp
    obtain ⟨hby, hlt⟩ := rByte c
    have hPc : P = ba a :: r.map ba := by rw [← hP, hmk]; rfl
    refine Ev.congr (f := fun k => (selector_marked.f k w).bind fun t110 => (if Lib.indexByte ms c < 0 then (if 0 < (t110.length : Int) then (if (rdOf ByteArray.empty t110 0).toList = ([42] : List UInt8) then (if 1 ≤ (t110.length : Int) then (selector_simple.j0 k (t110.drop (1 : Int).toNat) (⟨#[]⟩ : ByteArray) false false) else (none)) else (if 1 ≤ (t110.length : Int) then (selector_simple.j0 k (t110.drop (1 : Int).toNat) (rdOf ByteArray.empty t110 0) false false) else (none))) else (none)) else (selector_simple.j0 k t110 (⟨#[]⟩ : ByteArray) false false))) (fun k => ?_) ?_
    · rw [selector_simple.f, if_neg hnn]
      congr 1
      funext t110
      rw [if_pos (by omega), hb0, hby, Option.bind_some]
    refine Ev.bind (a := P) (Ev.congr (fun k => rfl) hm) ?_
    have l0 : P.length ≤ 100001 := by omega
    cases hc : isM c with
    | true =>
      have hneg : ¬ Lib.indexByte ms c < 0 := by
        intro h
        rw [decide_eq_true h, hc] at hlt
        cases hlt
      simp only [if_neg hneg, if_true]
      refine Ev.step (f := fun k => selector_simple.l0 k ((0 : Nat) : Int) P (P.length : Int) ((0 : Nat) : Int) ⟨#[]⟩ [] [] false false) (fun k => by rw [selector_simple.j0]; rfl) ?_
      refine (rSim_l P l0 hPs ⟨#[]⟩ (by decide) P.length 0 [] [] false false (by omega) (by simp) (by simp) (by simp)).eq ?_
      rw [List.drop_zero, hPl]
    | false =>
      have hpos : Lib.indexByte ms c < 0 := by
        rw [hc] at hlt
        exact of_decide_eq_true hlt
      have hr : rdOf ByteArray.empty P 0 = ba a := by rw [hPc]; rfl
      have hPn : (P.drop 1).length = (mk [c] t).length - 1 := by rw [List.length_drop, hPl]
      have hds : ∀ p ∈ P.drop 1, 1 ≤ p.size ∧ p.size ≤ 100000 := fun p hp => hPs p (List.mem_of_mem_drop hp)
      have hl1 : 0 < (P.length : Int) := by rw [hPc, List.length_cons]; omega
      have has : (ba a).size ≤ 100000 := (hPs (ba a) (by rw [hPc]; simp)).2
      simp only [if_pos hpos, if_pos hl1, if_pos (show 1 ≤ (P.length : Int) by omega), hr, Bool.false_eq_true, if_false, hmk, List.headD_cons]
      rw [show (1 : Int).toNat = 1 from rfl, toL, ba_data]
      rw [hmk] at hPn
      by_cases ha : a = [42]
      · simp only [if_pos ha]
        refine Ev.step (f := fun k => selector_simple.l0 k ((0 : Nat) : Int) (P.drop 1) ((P.drop 1).length : Int) ((0 : Nat) : Int) ⟨#[]⟩ [] [] false false) (fun k => by rw [selector_simple.j0]; rfl) ?_
        refine (rSim_l (P.drop 1) (by rw [List.length_drop]; omega) hds ⟨#[]⟩ (by decide) (P.drop 1).length 0 [] [] false false (by omega) (by simp) (by simp) (by simp)).eq ?_
        rw [List.drop_zero, hPn]
      · simp only [if_neg ha]
        refine Ev.step (f := fun k => selector_simple.l0 k ((0 : Nat) : Int) (P.drop 1) ((P.drop 1).length : Int) ((0 : Nat) : Int) (ba a) [] [] false false) (fun k => by rw [selector_simple.j0]; rfl) ?_
        refine (rSim_l (P.drop 1) (by rw [List.length_drop]; omega) hds (ba a) has (P.drop 1).length 0 [] [] false false (by omega) (by simp) (by simp) (by simp)).eq ?_
        rw [List.drop_zero, hPn]
end Go.Proofs.YtolfpgccebdlpaaGreatDoor.Pure
namespace Go.Proofs.YtolfpgccebdlpaaGreatDoor.Pure
open Go.RowKit Go.Proofs.YtolfpgccebdlpaaGreatDoor.HT Go.Proofs.YtolfpgccebdlpaaGreatDoorW.PrintWords Go.Proofs.YtolfpgccebdlpaaGreatDoorW.PrintLast Go.Proofs.YtolfpgccebdlpaaGreatDoorW.PrintMore Go.Proofs.Scn Go.Proofs.Tok
/-! ### every > gets blanks about it -/
def gt (l : List UInt8) : List UInt8 := l.flatMap fun c => if c = 62 then [32, 62, 32] else [c]
theorem gt_app (a b : List UInt8) : gt (a ++ b) = gt a ++ gt b := List.flatMap_append
theorem gt_hit (t : List UInt8) : gt (62 :: t) = 32 :: 62 :: 32 :: gt t := by simp [gt]
theorem gt_go {c : UInt8} (h : c ≠ 62) (t : List UInt8) : gt (c :: t) = c :: gt t := by simp [gt, h]
theorem gt_id : ∀ {l : List UInt8}, (∀ c ∈ l, c ≠ 62) → gt l = l
  | [], _ => rfl
  | c :: t, h => by rw [gt_go (h c (by simp)), gt_id fun d hd => h d (by simp [hd])]
theorem gt_len : ∀ l : List UInt8, (gt l).length ≤ 3 * l.length
  | [] => Nat.le_refl _
  | c :: t => by
    have := gt_len t
    by_cases h : c = 62
    · subst h; rw [gt_hit]; simp; omega
    · rw [gt_go h]; simp; omega
theorem replaceK_gt : ∀ (n : Nat) (l : List UInt8), l.length < n → Lib.replaceK [62] [32, 62, 32] (Lib.countFrom [62] n l) l = gt l
  | 0, l, h => by omega
  | n + 1, l, h => by
    rcases idx_spec 62 l with ⟨h1, h2⟩ | ⟨p, t, h1, h2, h3⟩
    · rw [Lib.countFrom, h1, gt_id fun c hc e => h2 (e ▸ hc)]
      rfl
    · have hn : ((p.length : Int) == -1) = false := by rw [beq_eq_false_iff_ne]; omega
      have hd : l.drop (p.length + 1) = t := by rw [h1]; simp
      have ht : l.take p.length = p := by rw [h1]; simp
      have hl : t.length < n := by rw [h1] at h; simp at h; omega
      rw [Lib.countFrom, h3, hn, if_neg (by decide), Nat.add_comm 1, Lib.replaceK, h3, hn, if_neg (by decide)]
      show l.take p.length ++ [32, 62, 32] ++ Lib.replaceK [62] [32, 62, 32] (Lib.countFrom [62] n (l.drop (p.length + 1))) (l.drop (p.length + 1)) = _
      rw [hd, ht, replaceK_gt n t hl, h1, gt_app, gt_hit, gt_id fun c hc e => h2 (e ▸ hc)]
      simp
theorem replace_gt (l : List UInt8) : Lib.replaceAll l [62] [32, 62, 32] = gt l := by
  unfold Lib.replaceAll Lib.replace Lib.replaceNum
  rw [if_neg (by decide), if_pos (Or.inl (by decide))]
  exact replaceK_gt _ l (Nat.lt_succ_self _)
theorem repl_f (s : ByteArray) (h : s.size ≤ 1000000) : strings_ReplaceAll.f s ⟨#[62]⟩ ⟨#[32, 62, 32]⟩ = some (ba (gt s.data.toList)) := by
  have hc : Lib.countB s ⟨#[62]⟩ ≤ s.data.toList.length + 1 := Lib.count_le _ _
  have h3 : (⟨#[32, 62, 32]⟩ : ByteArray).size = 3 := rfl
  unfold strings_ReplaceAll.f
  rw [if_pos]
  · show some (⟨(Lib.replaceAll s.data.toList [62] [32, 62, 32]).toArray⟩ : ByteArray) = _
    rw [replace_gt]
    rfl
  · refine ⟨by omega, by decide, ?_⟩
    rw [h3]
    rw [← sz] at hc
    omega
/-! ### words -/
theorem wg_len : ∀ (l cur : List UInt8), (wg cur l).length ≤ l.length + 1
  | [], cur => by rw [wg]; split <;> simp
  | c :: t, cur => by
    have h1 := wg_len t []
    have h2 := wg_len t (cur ++ [c])
    rw [wg]
    split
    · split <;> simp <;> omega
    · simp; omega
theorem wg_mem : ∀ (l cur : List UInt8), (∀ c ∈ cur, isB c = false) → ∀ p ∈ wg cur l, p ≠ [] ∧ p.length ≤ cur.length + l.length ∧ ∀ c ∈ p, isB c = false
  | [], cur, h, p, hp => by
    rw [wg] at hp
    split at hp
    · cases hp
    · rename_i hc
      rw [List.mem_singleton.1 hp]
      exact ⟨hc, by simp, h⟩
  | c :: t, cur, h, p, hp => by
    rw [wg] at hp
    split at hp
    · split at hp
      · have := wg_mem t [] (by simp) p hp
        exact ⟨this.1, by have := this.2.1; simp at this ⊢; omega, this.2.2⟩
      · rename_i hc
        rcases List.mem_cons.1 hp with rfl | hp
        · exact ⟨hc, by simp, h⟩
        · have := wg_mem t [] (by simp) p hp
          exact ⟨this.1, by have := this.2.1; simp at this ⊢; omega, this.2.2⟩
    · rename_i hb
      have := wg_mem t (cur ++ [c]) (by
        intro d hd
        rcases List.mem_append.1 hd with hd | hd
        · exact h d hd
        · rw [List.mem_singleton.1 hd]; simpa using hb) p hp
      exact ⟨this.1, by have := this.2.1; simp at this ⊢; omega, this.2.2⟩
/-! ### Read -/
def m44 (r : R6) : S80 := ⟨r.1, r.2.1, r.2.2.1, r.2.2.2.1, r.2.2.2.2.1⟩
abbrev RR := List S80 × List Bool × Bool
def zr : RR := ([], [], false)
def rdL : List ByteArray → Bool → Bool → List S80 → List Bool → RR
  | [], d, f, ps, bs => if f = true then zr else if d = true then zr else (ps, bs, true)
  | w :: ws, d, f, ps, bs => if w.data.toList = [62] then (if d = true then zr else if f = true then zr else rdL ws true f ps bs) else
    if (simT w).2.2.2.2.2 = true then (if ps.length = 8 then zr else rdL ws false false (ps ++ [m44 (simT w)]) (if f = true then bs else bs ++ [d])) else zr
def wordsR (l : List UInt8) : List (List UInt8) := wg [] (gt (l.map lowB))
def readV (s : ByteArray) : RR := rdL ((wordsR s.data.toList).map ba) false true [] []
theorem rRead_l (ws : List ByteArray) (hw : ws.length ≤ 1000000) (hs : ∀ w ∈ ws, w.size ≤ 100000) : ∀ (d n : Nat) (dr f : Bool) (ps : List S80) (bs : List Bool), n + d = ws.length → ps.length ≤ n → bs.length ≤ n →
    Ev (fun k => selector_Read.l0 k dr f ws (ws.length : Int) (n : Int) ps bs) (rdL (ws.drop n) dr f ps bs)
  | 0, n, dr, f, ps, bs, h, hp, hb => by
    obtain rfl : n = ws.length := by omega
    rw [List.drop_length, rdL]
    cases f with
    | true => exact Ev.step (f := fun k => some zr) (fun k => by rw [selector_Read.l0, if_neg (by omega), if_pos rfl]; rfl) ((Ev.now _).eq (by rw [if_pos rfl]))
    | false =>
      cases dr with
      | true => exact Ev.step (f := fun k => some zr) (fun k => by rw [selector_Read.l0, if_neg (by omega), if_neg (by decide), if_pos rfl]; rfl) ((Ev.now _).eq (by rw [if_neg (by decide), if_pos rfl]))
      | false => exact Ev.step (f := fun k => some (ps, bs, true)) (fun k => by rw [selector_Read.l0, if_neg (by omega), if_neg (by decide), if_neg (by decide)]) ((Ev.now _).eq (by rw [if_neg (by decide), if_neg (by decide)]))
  | d + 1, n, dr, f, ps, bs, h, hp, hb => by
    have hn : n < ws.length := by omega
    have hd : ws.drop n = ws[n] :: ws.drop (n + 1) := List.drop_eq_getElem_cons hn
    have ew := w64s n (by omega)
    rw [hd, rdL]
    by_cases c1 : ws[n].data.toList = [62]
    · rw [if_pos c1]
      cases dr with
      | true => exact Ev.step (f := fun k => some zr) (fun k => by rw [selector_Read.l0, if_pos (by omega), if_pos (by omega), if_pos (by omega), rdOf_at hn, toL, if_pos c1, if_pos rfl]; rfl) ((Ev.now _).eq (by rw [if_pos rfl]))
      | false =>
        cases f with
        | true => exact Ev.step (f := fun k => some zr) (fun k => by rw [selector_Read.l0, if_pos (by omega), if_pos (by omega), if_pos (by omega), rdOf_at hn, toL, if_pos c1, if_neg (by decide), if_pos rfl]; rfl) ((Ev.now _).eq (by rw [if_neg (by decide), if_pos rfl]))
        | false =>
          refine Ev.step (fun k => ?_) ((rRead_l ws hw hs d (n + 1) true false ps bs (by omega) (by omega) (by omega)).eq (by rw [if_neg (by decide), if_neg (by decide)]))
          rw [selector_Read.l0, if_pos (by omega), if_pos (by omega), if_pos (by omega), rdOf_at hn, toL, if_pos c1, if_neg (by decide), if_neg (by decide), ew]
    · rw [if_neg c1]
      have hS := rSimple ws[n] (hs _ (List.getElem_mem hn))
      generalize simT ws[n] = r at hS ⊢
      refine Ev.step (f := fun k => (selector_simple.f k ws[n]).bind fun bt138 => (if bt138.2.2.2.2.2 = true then (selector_Read.j1 k dr f ws (ws.length : Int) (n : Int) ((ps.length : Int) == 8) ps bs bt138.1 bt138.2.1 bt138.2.2.1 bt138.2.2.2.1 bt138.2.2.2.2.1) else (selector_Read.j1 k dr f ws (ws.length : Int) (n : Int) true ps bs bt138.1 bt138.2.1 bt138.2.2.1 bt138.2.2.2.1 bt138.2.2.2.2.1))) (fun k => by rw [selector_Read.l0, if_pos (by omega), if_pos (by omega), if_pos (by omega), rdOf_at hn, toL, if_neg c1]) ?_
      refine Ev.bind hS ?_
      by_cases c2 : r.2.2.2.2.2 = true
      · simp only [if_pos c2]
        by_cases c3 : ps.length = 8
        · have e8 : ((ps.length : Int) == 8) = true := by rw [beq_iff_eq]; omega
          exact Ev.step (f := fun k => some zr) (fun k => by rw [selector_Read.j1, e8, if_pos rfl]; rfl) ((Ev.now _).eq (by rw [if_pos c3]))
        · have e8 : ((ps.length : Int) == 8) = false := by rw [beq_eq_false_iff_ne]; omega
          have ih := fun bs' hb' => rRead_l ws hw hs d (n + 1) false false (ps ++ [m44 r]) bs' (by omega) (by simp; omega) hb'
          rw [if_neg c3]
          cases f with
          | true =>
            refine Ev.step (fun k => ?_) ((ih bs (by omega)).eq (by rw [if_pos rfl]))
            rw [selector_Read.j1, e8, if_neg (by decide), if_pos rfl, if_pos (by omega), ew]
            rfl
          | false =>
            refine Ev.step (fun k => ?_) ((ih (bs ++ [dr]) (by simp; omega)).eq (by rw [if_neg (by decide)]))
            rw [selector_Read.j1, e8, if_neg (by decide), if_neg (by decide), if_pos (by omega), if_pos (by omega), ew]
            rfl
      · simp only [if_neg c2]
        exact Ev.step (f := fun k => some zr) (fun k => by rw [selector_Read.j1, if_pos rfl]; rfl) (Ev.now _)
theorem rRead (s : ByteArray) (hs : s.size ≤ 30000) : Ev (fun k => selector_Read.f k s) (readV s) := by
  have hl : (lowV s).size = s.size := by rw [sz, lowV_data, List.length_map, ← sz]
  have hg : (ba (gt (lowV s).data.toList)).size ≤ 90000 := by
    have := gt_len (lowV s).data.toList
    rw [sz, ba_data]
    rw [← sz, hl] at this
    omega
  have hW : wordsV (ba (gt (lowV s).data.toList)) = (wordsR s.data.toList).map ba := by rw [wordsV_eq, ba_data, lowV_data]; rfl
  have hlen : (wordsR s.data.toList).length ≤ 90001 := by
    have := wg_len (gt (s.data.toList.map lowB)) []
    have h2 := gt_len (s.data.toList.map lowB)
    rw [List.length_map, ← sz] at h2
    unfold wordsR
    omega
  have hmem : ∀ w ∈ (wordsR s.data.toList).map ba, w.size ≤ 100000 := by
    intro w hw
    obtain ⟨p, hp, rfl⟩ := List.mem_map.1 hw
    have := (wg_mem (gt (s.data.toList.map lowB)) [] (by simp) p hp).2.1
    have h2 := gt_len (s.data.toList.map lowB)
    rw [List.length_map, ← sz] at h2
    rw [sz, ba_data]
    simp at this
    omega
  refine Ev.congr (f := fun k => selector_Read.l0 k false true ((wordsR s.data.toList).map ba) (((wordsR s.data.toList).map ba).length : Int) ((0 : Nat) : Int) [] []) (fun k => ?_) ((rRead_l _ (by rw [List.length_map]; omega) hmem ((wordsR s.data.toList).map ba).length 0 false true [] [] (Nat.zero_add _) (by simp) (by simp)).eq (by rw [List.drop_zero]; rfl))
  rw [selector_Read.f, scan_Lower.f, if_pos (by omega), Option.bind_some, repl_f _ (by omega), Option.bind_some, scan_Words.f, if_pos (by omega), Option.bind_some, hW]
  rfl
end Go.Proofs.YtolfpgccebdlpaaGreatDoor.Pure
namespace Go.Proofs.YtolfpgccebdlpaaGreatDoor.Pure
open Go.RowKit Go.Proofs.YtolfpgccebdlpaaGreatDoor.HT Go.Proofs.YtolfpgccebdlpaaGreatDoorW.PrintWords Go.Proofs.YtolfpgccebdlpaaGreatDoorW.PrintLast Go.Proofs.YtolfpgccebdlpaaGreatDoorW.PrintMore Go.Proofs.Scn Go.Proofs.Tok
/-! ### names -/
def okc (c : UInt8) : Bool := (decide (97 ≤ c.toNat) && decide (c.toNat ≤ 122)) || ((decide (48 ≤ c.toNat) && decide (c.toNat ≤ 57)) || c == 45)
def okT (c : UInt8) : Bool := okc c || (isM c || c == 42)
theorem all256 (p : UInt8 → Bool) (h : ((List.range 256).all fun n => p (UInt8.ofNat n)) = true) (c : UInt8) : p c = true := by
  have := List.all_eq_true.1 h c.toNat (List.mem_range.2 c.toNat_lt)
  simpa using this
theorem okc_M {c : UInt8} (h : okc c = true) : isM c = false ∧ c ≠ 42 := by
  have := all256 (fun c => !okc c || (!isM c && c != 42)) (by kernel_rfl) c
  simp only [h, Bool.not_true, Bool.false_or, Bool.and_eq_true, Bool.not_eq_true', bne_iff_ne] at this
  exact this
theorem okT_all {c : UInt8} (h : okT c = true) : isB c = false ∧ c ≠ 62 ∧ lowB c = c ∧ c ≠ 44 := by
  have := all256 (fun c => !okT c || (!isB c && (c != 62 && (lowB c == c && c != 44)))) (by kernel_rfl) c
  simp only [h, Bool.not_true, Bool.false_or, Bool.and_eq_true, Bool.not_eq_true', bne_iff_ne, beq_iff_eq] at this
  exact this
theorem in_ok {c : UInt8} (h1 : inI (c.toNat : Int) = true) (h2 : lowT c = c) : okc c = true := by
  have := all256 (fun c => !(inI (c.toNat : Int) && lowT c == c) || okc c) (by kernel_rfl) c
  simpa [h1, h2] using this
theorem name_ok {l : List UInt8} (h : nameV l = true) : l ≠ [] ∧ ∀ c ∈ l, okc c = true := by
  unfold nameV at h
  rw [Bool.and_eq_true, Bool.and_eq_true] at h
  obtain ⟨h1, h2, h3⟩ := h
  have h2 := of_decide_eq_true h2
  have h3 := eq_of_beq h3
  rw [h2, List.take_length, toL, toL] at h3
  have h4 : l.map lowT = l := by simpa [lowTV] using h3
  have h5 : ∀ c ∈ l, lowT c = id c := List.map_inj_left.1 (h4.trans (List.map_id l).symm)
  constructor
  · rintro rfl
    simp [nameOk, lead_nil] at h1
  · intro c hc
    obtain ⟨k, hk, rfl⟩ := List.getElem_of_mem hc
    have h6 := lead_lt (l := l) (k := k) (by omega)
    rw [List.getD, List.getElem?_eq_getElem hk] at h6
    exact in_ok h6 (h5 _ hc)
/-! ### a part's text -/
def lkW : List UInt8 := [58, 108, 105, 110, 107]
def viW : List UInt8 := [58, 118, 105, 115, 105, 116, 101, 100]
def tl (x : Smp) : List (List UInt8) := (x.2.1.map fun s => 35 :: s.data.toList) ++ ((x.2.2.1.map fun s => 46 :: s.data.toList) ++ ((if x.2.2.2.1 = true then [lkW] else []) ++ (if x.2.2.2.2 = true then [viW] else [])))
theorem textL_eq (x : Smp) : textL x = x.1.data.toList ++ (tl x).flatten := by
  unfold textL tl preW
  rw [List.flatten_append, List.flatten_append, List.flatten_append, ← List.flatMap_def, ← List.flatMap_def, List.append_assoc, List.append_assoc, List.append_assoc]
  congr 3
  cases x.2.2.2.1 <;> cases x.2.2.2.2 <;> simp [lkW, viW]
def gp (p : List UInt8) : Prop := ∃ m n, p = m :: n ∧ isM m = true ∧ ∀ c ∈ n, okc c = true
theorem mk_tl : ∀ Q : List (List UInt8), (∀ p ∈ Q, gp p) → ∀ cur, mk cur Q.flatten = cur :: Q
  | [], _, cur => rfl
  | p :: Q, h, cur => by
    obtain ⟨m, n, rfl, hm, hn⟩ := h p (by simp)
    rw [List.flatten_cons, List.cons_append, mk_hit hm, mk_word (fun c hc => (okc_M (hn c hc)).1), mk_tl Q (fun q hq => h q (by simp [hq]))]
    rfl
theorem may_parts {x : Smp} (h : mayX x = true) : (x.1.data.toList = [] ∨ nameV x.1.data.toList = true) ∧ (∀ s ∈ x.2.1 ++ x.2.2.1, nameV s.data.toList = true) ∧ (tl x).length ≤ 8 := by
  unfold mayX mayV at h
  rw [Bool.and_eq_true, Bool.and_eq_true, Bool.or_eq_true, decide_eq_true_iff] at h
  obtain ⟨h1, h2, h3⟩ := h
  refine ⟨h1, ?_, ?_⟩
  · intro s hs
    rw [Bool.not_eq_true'] at h2
    have := List.any_eq_false.1 h2 s hs
    simpa [noName] using this
  · have h3 := of_decide_eq_true h3
    unfold tl
    unfold truthV at h3
    rw [List.length_append] at h3
    rw [List.length_append, List.length_append, List.length_append, List.length_map, List.length_map]
    cases hl : x.2.2.2.1 <;> cases hv : x.2.2.2.2 <;> simp [hl, hv] at h3 ⊢ <;> omega
theorem tl_gp {x : Smp} (h : mayX x = true) : ∀ p ∈ tl x, gp p := by
  have h2 := (may_parts h).2.1
  intro p hp
  unfold tl at hp
  rcases List.mem_append.1 hp with hp | hp
  · obtain ⟨s, hs, rfl⟩ := List.mem_map.1 hp
    exact ⟨35, _, rfl, by decide, (name_ok (h2 s (List.mem_append_left _ hs))).2⟩
  rcases List.mem_append.1 hp with hp | hp
  · obtain ⟨s, hs, rfl⟩ := List.mem_map.1 hp
    exact ⟨46, _, rfl, by decide, (name_ok (h2 s (List.mem_append_right _ hs))).2⟩
  rcases List.mem_append.1 hp with hp | hp
  · split at hp
    · rw [List.mem_singleton.1 hp]
      exact ⟨58, [108, 105, 110, 107], rfl, by decide, by decide⟩
    · cases hp
  · split at hp
    · rw [List.mem_singleton.1 hp]
      exact ⟨58, [118, 105, 115, 105, 116, 101, 100], rfl, by decide, by decide⟩
    · cases hp
theorem bt_ba (c : UInt8) (t : List UInt8) : bt (ba (c :: t)) 0 = (c.toNat : Int) := (drop_at (s := ba (c :: t)) (i := 0) (c := c) (t := t) (by rw [ba_data]; rfl)).2.1
theorem ext_ba (c : UInt8) (s : ByteArray) : (ba (c :: s.data.toList)).extract 1 (ba (c :: s.data.toList)).size = s := ba_ext (by rw [ext_to, ba_data]; rfl)
theorem smF_ids (t : ByteArray) (c : List ByteArray) (l v : Bool) (r : List ByteArray) : ∀ (ids i : List ByteArray), smF ((ids.map fun s => ba (35 :: s.data.toList)) ++ r) t i c l v = smF r t (i ++ ids) c l v
  | [], i => by simp
  | s :: ids, i => by
    rw [List.map_cons, List.cons_append, smF, ba_data, if_neg (by simp), if_neg (by simp), bt_ba, if_pos (by decide), ext_ba, smF_ids t c l v r ids]
    simp
theorem smF_cls (t : ByteArray) (i : List ByteArray) (l v : Bool) (r : List ByteArray) : ∀ (cls c : List ByteArray), smF ((cls.map fun s => ba (46 :: s.data.toList)) ++ r) t i c l v = smF r t i (c ++ cls) l v
  | [], c => by simp
  | s :: cls, c => by
    rw [List.map_cons, List.cons_append, smF, ba_data, if_neg (by simp), if_neg (by simp), bt_ba, if_neg (by decide), if_pos (by decide), ext_ba, smF_cls t i l v r cls]
    simp
theorem smF_tl (x : Smp) : smF ((tl x).map ba) x.1 [] [] false false = some x := by
  obtain ⟨t, i, c, l, v⟩ := x
  have e : (tl (t, i, c, l, v)).map ba = (i.map fun s => ba (35 :: s.data.toList)) ++ ((c.map fun s => ba (46 :: s.data.toList)) ++ ((if l = true then [ba lkW] else []) ++ (if v = true then [ba viW] else []))) := by
    unfold tl
    rw [List.map_append, List.map_append, List.map_append, List.map_map, List.map_map]
    cases l <;> cases v <;> rfl
  rw [e, smF_ids, smF_cls, List.nil_append, List.nil_append]
  cases l <;> cases v <;> simp [smF, ba_data, lkW, viW]
def T (x : Smp) : List UInt8 := (textV x).data.toList
theorem T_eq (x : Smp) : T x = if textL x = [] then [42] else textL x := by
  unfold T textV
  split <;> simp
theorem simT_text {x : Smp} (h : mayX x = true) : simT (textV x) = (x.1, x.2.1, x.2.2.1, x.2.2.2.1, x.2.2.2.2, true) := by
  have hT := T_eq x
  obtain ⟨h1, h2, h3⟩ := may_parts h
  have hg := tl_gp h
  have fin : ∀ n, n ≤ 8 → finT n (some x) = (x.1, x.2.1, x.2.2.1, x.2.2.2.1, x.2.2.2.2, true) := fun n hn => by rw [finT, decide_eq_true hn, h]; rfl
  have hx1 : x.1.data.toList = [] → x.1 = ⟨#[]⟩ := fun e => ba_ext (by rw [e])
  unfold simT
  rw [show (textV x).data.toList = T x from rfl, hT]
  cases hx : x.1.data.toList with
  | nil =>
    have ht := hx1 hx
    cases hQ : tl x with
    | nil =>
      have e0 : textL x = [] := by rw [textL_eq, hx, hQ]; rfl
      have hs := smF_tl x
      rw [hQ, ht] at hs
      rw [if_pos e0]
      show (if isM 42 = true then _ else _) = _
      rw [if_neg (by decide)]
      show finT 0 (smF [] ⟨#[]⟩ [] [] false false) = _
      rw [show smF [] ⟨#[]⟩ [] [] false false = some x from hs]
      exact fin 0 (by omega)
    | cons p Q =>
      obtain ⟨m, n, rfl, hm, hn⟩ := hg p (by rw [hQ]; simp)
      have e1 : textL x = m :: (n ++ Q.flatten) := by rw [textL_eq, hx, hQ]; simp
      have e2 : mk [m] (n ++ Q.flatten) = tl x := by
        rw [mk_word (fun c hc => (okc_M (hn c hc)).1), mk_tl Q (fun q hq => hg q (by rw [hQ]; simp [hq])), hQ]
        rfl
      rw [if_neg (by rw [e1]; simp), e1]
      show (if isM m = true then finT (mk [m] (n ++ Q.flatten)).length (smF ((mk [m] (n ++ Q.flatten)).map ba) ⟨#[]⟩ [] [] false false) else _) = _
      rw [if_pos hm, e2, ← ht, smF_tl]
      exact fin _ h3
  | cons c t =>
    have hnm : nameV (c :: t) = true := by
      rcases h1 with h1 | h1
      · rw [hx] at h1; cases h1
      · rw [hx] at h1; exact h1
    have hok := (name_ok hnm).2
    have hc := okc_M (hok c (by simp))
    have e1 : textL x = c :: (t ++ (tl x).flatten) := by rw [textL_eq, hx]; simp
    have e2 : mk [c] (t ++ (tl x).flatten) = (c :: t) :: tl x := by
      rw [mk_word (fun d hd => (okc_M (hok d (by simp [hd]))).1), mk_tl _ hg]
      rfl
    rw [if_neg (by rw [e1]; simp), e1]
    show (if isM c = true then _ else finT ((mk [c] (t ++ (tl x).flatten)).length - 1) (smF (((mk [c] (t ++ (tl x).flatten)).map ba).drop 1) (if (mk [c] (t ++ (tl x).flatten)).headD [] = [42] then ⟨#[]⟩ else ba ((mk [c] (t ++ (tl x).flatten)).headD [])) [] [] false false)) = _
    have hne : ¬ (c :: t) = [42] := fun e => hc.2 (List.cons.inj e).1
    have hb : ba (c :: t) = x.1 := by rw [← hx, data_ba]
    rw [if_neg (by rw [hc.1]; decide), e2]
    show finT (tl x).length (smF ((tl x).map ba) (if (c :: t) = [42] then ⟨#[]⟩ else ba (c :: t)) [] [] false false) = _
    rw [if_neg hne, hb, smF_tl]
    exact fin _ h3
theorem T_ok {x : Smp} (h : mayX x = true) : T x ≠ [] ∧ ∀ c ∈ T x, okT c = true := by
  obtain ⟨h1, h2, h3⟩ := may_parts h
  have hg := tl_gp h
  rw [T_eq]
  split
  · exact ⟨by simp, by decide⟩
  · rename_i hne
    refine ⟨hne, ?_⟩
    intro c hc
    rw [textL_eq] at hc
    rcases List.mem_append.1 hc with hc | hc
    · rcases h1 with h1 | h1
      · rw [h1] at hc; cases hc
      · unfold okT
        rw [(name_ok h1).2 c hc]
        rfl
    · obtain ⟨p, hp, hc⟩ := List.mem_flatten.1 hc
      obtain ⟨m, n, rfl, hm, hn⟩ := hg p hp
      unfold okT
      rcases List.mem_cons.1 hc with rfl | hc
      · rw [hm]; simp
      · rw [hn c hc]; rfl
/-! ### the words of what is printed -/
def sp (b : Bool) : List UInt8 := if b = true then [32, 62, 32] else [32]
def pl : List Smp → List Bool → List UInt8
  | x :: xs, b :: bs => sp b ++ (T x ++ pl xs bs)
  | _, _ => []
def wl : List Smp → List Bool → List (List UInt8)
  | x :: xs, b :: bs => (if b = true then [[62]] else []) ++ T x :: wl xs bs
  | _, _ => []
theorem pl_snoc (x : Smp) (y : Bool) : ∀ (a : List Smp) (b : List Bool), a.length = b.length → pl (a ++ [x]) (b ++ [y]) = pl a b ++ (sp y ++ T x)
  | [], [], _ => by simp [pl]
  | [], _ :: _, h => by simp at h
  | _ :: _, [], h => by simp at h
  | x' :: a, y' :: b, h => by
    rw [List.cons_append, List.cons_append, pl, pl, pl_snoc x y a b (by simpa using h)]
    simp
theorem print_pl (x0 : Smp) (xs : List Smp) (bs : List Bool) (h : xs.length = bs.length) : ∀ k, k ≤ xs.length → printA (x0 :: xs) bs (k + 1) = T x0 ++ pl (xs.take k) (bs.take k)
  | 0, _ => by
    rw [printA, printA, sepL, if_pos rfl, List.take_zero, List.take_zero, show pl [] [] = [] from rfl]
    simp [T]
  | k + 1, hk => by
    have h1 : k < xs.length := by omega
    have h2 : k < bs.length := by omega
    rw [printA, print_pl x0 xs bs h k (by omega), List.take_succ_eq_append_getElem h1, List.take_succ_eq_append_getElem h2, pl_snoc _ _ _ _ (by simp [h])]
    have e1 : (x0 :: xs).getD (k + 1) zSmp = xs[k] := by rw [List.getD_cons_succ, List.getD, List.getElem?_eq_getElem h1]; rfl
    have e2 : sepL bs (k + 1) = sp bs[k] := by
      unfold sepL sp
      rw [if_neg (by omega), Nat.add_sub_cancel, List.getD, List.getElem?_eq_getElem h2]
      rfl
    rw [e1, e2]
    simp [T]
def G (l : List UInt8) : List UInt8 := gt (l.map lowB)
theorem G_app (a b : List UInt8) : G (a ++ b) = G a ++ G b := by unfold G; rw [List.map_append, gt_app]
theorem G_T {x : Smp} (h : mayX x = true) : G (T x) = T x := by
  have hk := (T_ok h).2
  unfold G
  rw [show (T x).map lowB = T x from (List.map_congr_left fun c hc => (okT_all (hk c hc)).2.2.1).trans (List.map_id' _)]
  exact gt_id fun c hc => (okT_all (hk c hc)).2.1
theorem wg_T {x : Smp} (h : mayX x = true) (r : List UInt8) (hr : r = [] ∨ ∃ c u, r = c :: u ∧ isB c = true) : wg [] (T x ++ r) = T x :: wg [] r := by
  obtain ⟨h1, h2⟩ := T_ok h
  rw [wg_word (fun c hc => (okT_all (h2 c hc)).1), List.nil_append]
  rcases hr with rfl | ⟨c, u, rfl, hc⟩
  · rw [wg, if_neg h1]; rfl
  · rw [wg_shut hc h1, wg_blank hc]
theorem G_pl_head (xs : List Smp) (bs : List Bool) (t : List UInt8) (ht : t = [] ∨ ∃ c u, t = c :: u ∧ isB c = true) : G (pl xs bs) ++ t = [] ∨ ∃ c u, G (pl xs bs) ++ t = c :: u ∧ isB c = true := by
  cases xs with
  | nil => exact ht
  | cons x xs =>
    cases bs with
    | nil => exact ht
    | cons b bs =>
      right
      rw [pl, G_app]
      cases b
      · exact ⟨32, _, rfl, by decide⟩
      · exact ⟨32, _, rfl, by decide⟩
theorem words_pl : ∀ (xs : List Smp) (bs : List Bool), xs.length = bs.length → (∀ x ∈ xs, mayX x = true) → ∀ t, (t = [] ∨ ∃ c u, t = c :: u ∧ isB c = true) → wg [] (G (pl xs bs) ++ t) = wl xs bs ++ wg [] t
  | [], [], _, _, t, _ => rfl
  | [], _ :: _, h, _, _, _ => by simp at h
  | _ :: _, [], h, _, _, _ => by simp at h
  | x :: xs, b :: bs, h, hm, t, ht => by
    have hx := hm x (by simp)
    have ih := words_pl xs bs (by simpa using h) (fun y hy => hm y (by simp [hy])) t ht
    have hd := G_pl_head xs bs t ht
    rw [pl, wl, G_app, G_app, G_T hx]
    have e := wg_T hx (G (pl xs bs) ++ t) hd
    rw [ih] at e
    cases b with
    | false =>
      show wg [] (32 :: (T x ++ G (pl xs bs) ++ t)) = T x :: wl xs bs ++ wg [] t
      rw [wg_blank (by decide), List.append_assoc, e]
      rfl
    | true =>
      show wg [] (32 :: 32 :: 62 :: 32 :: 32 :: (T x ++ G (pl xs bs) ++ t)) = [62] :: (T x :: wl xs bs) ++ wg [] t
      rw [wg_blank (by decide), wg_blank (by decide), wg_go (by decide), List.nil_append, wg_shut (by decide) (by simp), wg_blank (by decide), List.append_assoc, e]
      rfl
/-! ### what is printed is read as what it was -/
theorem it_m44 (x : S80) : m44 (x.f0, x.f1, x.f2, x.f3, x.f4, true) = x := rfl
theorem rdL_wl : ∀ (xs : List S80) (bs : List Bool), xs.length = bs.length → (∀ x ∈ xs, mayX (it x) = true) → ∀ ps cs, ps.length + xs.length ≤ 8 → rdL ((wl (xs.map it) bs).map ba) false false ps cs = (ps ++ xs, cs ++ bs, true)
  | [], [], _, _, ps, cs, _ => by simp [wl, rdL]
  | [], _ :: _, h, _, _, _, _ => by simp at h
  | _ :: _, [], h, _, _, _, _ => by simp at h
  | x :: xs, b :: bs, h, hm, ps, cs, hl => by
    have hx := hm x (by simp)
    have ih := rdL_wl xs bs (by simpa using h) (fun y hy => hm y (by simp [hy])) (ps ++ [x]) (cs ++ [b]) (by simp at hl ⊢; omega)
    have h62 : ¬ (ba (T (it x))).data.toList = [62] := by
      rw [ba_data]
      intro e
      have := (okT_all ((T_ok hx).2 62 (by rw [e]; simp))).2.1
      exact this rfl
    have hS : simT (ba (T (it x))) = (x.f0, x.f1, x.f2, x.f3, x.f4, true) := by
      rw [show ba (T (it x)) = textV (it x) from data_ba _]
      exact simT_text hx
    have h8 : ¬ ps.length = 8 := by simp at hl; omega
    have step : ∀ d, rdL (ba (T (it x)) :: (wl (xs.map it) bs).map ba) d false ps cs = rdL ((wl (xs.map it) bs).map ba) false false (ps ++ [x]) (cs ++ [d]) := fun d => by
      rw [rdL, if_neg h62, hS, if_pos rfl, if_neg h8, if_neg (by decide), it_m44]
    rw [List.map_cons, wl, List.map_append, List.map_cons]
    cases b with
    | false =>
      show rdL (ba (T (it x)) :: (wl (xs.map it) bs).map ba) false false ps cs = _
      rw [step, ih]
      simp
    | true =>
      show rdL (ba [62] :: ba (T (it x)) :: (wl (xs.map it) bs).map ba) false false ps cs = _
      rw [rdL, if_pos (ba_data _), if_neg (by decide), if_neg (by decide), step, ih]
      simp
theorem mayS_parts {xs : List Smp} {n : Nat} (h : mayS xs n = true) : xs ≠ [] ∧ xs.length ≤ 8 ∧ n + 1 = xs.length ∧ ∀ x ∈ xs, mayX x = true := by
  unfold mayS at h
  rw [Bool.and_eq_true, Bool.and_eq_true, Bool.and_eq_true, decide_eq_true_iff, decide_eq_true_iff, Bool.not_eq_true', Bool.not_eq_true'] at h
  obtain ⟨h1, h2, h3, h4⟩ := h
  refine ⟨by rintro rfl; simp at h1, h2, h3, fun x hx => ?_⟩
  have := List.any_eq_false.1 h4 x hx
  simpa using this
theorem print_data {x0 : Smp} {xs : List Smp} {bs : List Bool} (h : mayS (x0 :: xs) bs.length = true) : (printV (x0 :: xs) bs).data.toList = T x0 ++ pl xs bs := by
  have hl := (mayS_parts h).2.2.1
  have e := print_pl x0 xs bs (by simp at hl; omega) xs.length (Nat.le_refl _)
  rw [List.take_length, show bs.take xs.length = bs from List.take_of_length_le (by simp at hl; omega)] at e
  unfold printV
  rw [if_pos h, List.length_cons, e]
theorem words_print {x0 : Smp} {xs : List Smp} {bs : List Bool} (h : mayS (x0 :: xs) bs.length = true) : wordsR (printV (x0 :: xs) bs).data.toList = T x0 :: wl xs bs := by
  obtain ⟨_, _, hl, hm⟩ := mayS_parts h
  have hl2 : xs.length = bs.length := by simp at hl; omega
  have e := words_pl xs bs hl2 (fun y hy => hm y (by simp [hy])) [] (Or.inl rfl)
  have e2 := wg_T (hm x0 (by simp)) (G (pl xs bs) ++ []) (G_pl_head xs bs [] (Or.inl rfl))
  rw [e, List.append_nil, show wg [] [] = [] from rfl, List.append_nil] at e2
  rw [print_data h]
  show wg [] (G (T x0 ++ pl xs bs)) = _
  rw [G_app, G_T (hm x0 (by simp)), e2]
theorem read_print (xs : List S80) (bs : List Bool) (h : mayS (xs.map it) bs.length = true) : readV (printV (xs.map it) bs) = (xs, bs, true) := by
  cases xs with
  | nil => exact absurd rfl (mayS_parts h).1
  | cons x xs =>
    rw [List.map_cons] at h
    obtain ⟨_, h8, hl, hm⟩ := mayS_parts h
    have hl2 : xs.length = bs.length := by simp at hl; omega
    unfold readV
    rw [List.map_cons, words_print h, List.map_cons]
    have hx := hm (it x) (by simp)
    have h62 : ¬ (ba (T (it x))).data.toList = [62] := by
      rw [ba_data]
      intro e
      have := (okT_all ((T_ok hx).2 62 (by rw [e]; simp))).2.1
      exact this rfl
    have hS : simT (ba (T (it x))) = (x.f0, x.f1, x.f2, x.f3, x.f4, true) := by
      rw [show ba (T (it x)) = textV (it x) from data_ba _]
      exact simT_text hx
    rw [rdL, if_neg h62, hS, if_pos rfl, if_neg (by simp), if_pos rfl, it_m44, rdL_wl xs bs hl2 (fun y hy => hm (it y) (by simp; exact Or.inr ⟨y, hy, rfl⟩)) _ _ (by simp at h8 ⊢; omega)]
    simp
/-! ### what is read may be -/
theorem rdL_may : ∀ (ws : List ByteArray) (d f : Bool) (ps : List S80) (bs : List Bool), (∀ x ∈ ps, mayX (it x) = true) → ps.length ≤ 8 → (f = true → ps = [] ∧ bs = []) → (f = false → bs.length + 1 = ps.length) →
    ((rdL ws d f ps bs).2.2 = true → mayS ((rdL ws d f ps bs).1.map it) (rdL ws d f ps bs).2.1.length = true) ∧ ((rdL ws d f ps bs).2.2 = false → rdL ws d f ps bs = zr)
  | [], d, f, ps, bs, hm, h8, h1, h2 => by
    rw [rdL]
    cases f with
    | true => rw [if_pos rfl]; exact ⟨fun h => by simp [zr] at h, fun _ => rfl⟩
    | false =>
      cases d with
      | true => rw [if_neg (by decide), if_pos rfl]; exact ⟨fun h => by simp [zr] at h, fun _ => rfl⟩
      | false =>
        rw [if_neg (by decide), if_neg (by decide)]
        refine ⟨fun _ => ?_, fun h => by simp at h⟩
        have h3 := h2 rfl
        show mayS (ps.map it) bs.length = true
        unfold mayS
        rw [List.length_map]
        have e0 : (ps.length == 0) = false := by rw [beq_eq_false_iff_ne]; omega
        have e3 : ((ps.map it).any fun x => !mayX x) = false := by
          rw [List.any_eq_false]
          intro x hx
          obtain ⟨y, hy, rfl⟩ := List.mem_map.1 hx
          rw [hm y hy]; decide
        rw [e0, decide_eq_true h8, decide_eq_true h3, e3]
        rfl
  | w :: ws, d, f, ps, bs, hm, h8, h1, h2 => by
    have z : (zr.2.2 = true → mayS (zr.1.map it) zr.2.1.length = true) ∧ (zr.2.2 = false → zr = zr) := ⟨fun h => by simp [zr] at h, fun _ => rfl⟩
    rw [rdL]
    by_cases c1 : w.data.toList = [62]
    · rw [if_pos c1]
      cases d with
      | true => rw [if_pos rfl]; exact z
      | false =>
        rw [if_neg (by decide)]
        cases f with
        | true => rw [if_pos rfl]; exact z
        | false => rw [if_neg (by decide)]; exact rdL_may ws true false ps bs hm h8 h1 h2
    · rw [if_neg c1]
      by_cases c2 : (simT w).2.2.2.2.2 = true
      · rw [if_pos c2]
        by_cases c3 : ps.length = 8
        · rw [if_pos c3]; exact z
        · rw [if_neg c3]
          have hx : mayX (it (m44 (simT w))) = true := by
            have key : ∀ n o, (finT n o).2.2.2.2.2 = true → mayX (it (m44 (finT n o))) = true := by
              intro n o h
              cases o with
              | none => simp [finT, z6] at h
              | some x =>
                rw [finT] at h
                have h : (decide (n ≤ 8) && mayX x) = true := h
                rw [Bool.and_eq_true] at h
                exact h.2
            unfold simT at c2 ⊢
            split at c2
            · simp [z6] at c2
            · rename_i c t hct
              split at c2
              · rename_i hc
                rw [if_pos hc]
                exact key _ _ c2
              · rename_i hc
                rw [if_neg hc]
                exact key _ _ c2
          refine rdL_may ws false false (ps ++ [m44 (simT w)]) _ ?_ (by simp; omega) (fun h => by simp at h) (fun _ => ?_)
          · intro x hxm
            rcases List.mem_append.1 hxm with hxm | hxm
            · exact hm x hxm
            · rw [List.mem_singleton.1 hxm]; exact hx
          · cases f with
            | true => obtain ⟨rfl, rfl⟩ := h1 rfl; rfl
            | false => have := h2 rfl; simp; omega
      · rw [if_neg c2]; exact z
theorem read_may (s : ByteArray) : ((readV s).2.2 = true → mayS ((readV s).1.map it) (readV s).2.1.length = true) ∧ ((readV s).2.2 = false → readV s = zr) := rdL_may _ false true [] [] (by simp) (by simp) (fun _ => ⟨rfl, rfl⟩) (fun h => by simp at h)
theorem read_empty : readV ⟨#[]⟩ = zr := rfl
theorem print_empty {xs : List Smp} {bs : List Bool} (h : mayS xs bs.length = false) : printV xs bs = ⟨#[]⟩ := by unfold printV; rw [if_neg (by rw [h]; decide)]
end Go.Proofs.YtolfpgccebdlpaaGreatDoor.Pure
set_option linter.unusedVariables false
set_option linter.unusedSimpArgs false
namespace Go.Proofs.YtolfpgccebdlpaaGreatDoor.Shp
open Go.RowKit Go.Proofs.YtolfpgccebdlpaaGreatDoor.HT Go.Proofs.YtolfpgccebdlpaaGreatDoorW.PrintWords Go.Proofs.YtolfpgccebdlpaaGreatDoorW.PrintLast Go.Proofs.Scn Go.Proofs.Sht
abbrev DCL := S111
abbrev DCR := S123
theorem w64 {n : Int} (h1 : -9223372036854775808 ≤ n) (h2 : n ≤ 9223372036854775807) : wrap64 n = n := by unfold wrap64; omega
theorem w64s (i : Nat) (h : i < 100000000) : wrap64 ((i : Int) + 1) = ((i + 1 : Nat) : Int) := by rw [w64 (by omega) (by omega)]; omega
theorem ev_eq {α : Type} {g : Nat → Option α} {a b : α} (h : Ev g a) (e : a = b) : Ev g b := e ▸ h
theorem rdOf_at {α : Type} {d : α} {l : List α} {i : Nat} (h : i < l.length) : rdOf d l (i : Int) = l[i] := by
  unfold rdOf
  rw [Int.toNat_natCast, List.getD, List.getElem?_eq_getElem h]
  rfl
theorem spl_len (c : UInt8) : ∀ l : List UInt8, (spl c l).length ≤ l.length + 1
  | [] => by simp [spl]
  | x :: t => by
    have ih := spl_len c t
    by_cases h : x = c
    · subst h; rw [spl_hit]; simp; omega
    · obtain ⟨a, r, e⟩ := spl_ne c t
      rw [spl_step h e]
      rw [e] at ih
      simp at ih ⊢
      omega
theorem spl_mem (c : UInt8) : ∀ (l : List UInt8), ∀ p ∈ spl c l, p.length ≤ l.length
  | [], p, hp => by simp [spl] at hp; rw [hp]; simp
  | x :: t, p, hp => by
    have ih := spl_mem c t
    by_cases h : x = c
    · subst h
      rw [spl_hit] at hp
      rcases List.mem_cons.1 hp with rfl | hp
      · simp
      · have := ih p hp; simp; omega
    · obtain ⟨a, r, e⟩ := spl_ne c t
      rw [spl_step h e] at hp
      rw [e] at ih
      rcases List.mem_cons.1 hp with rfl | hp
      · have := ih a (by simp); simp; omega
      · have := ih p (by simp [hp]); simp; omega
theorem valsV_len (p : Int) (ts : List ByteArray) (im : Bool) (wh : List Nat) : ∀ (d i : Nat) (acc : List Dc), (valsV p ts im wh d i acc).length ≤ acc.length + d
  | 0, _, acc => by simp [valsV]
  | d + 1, i, acc => by
    rw [valsV]
    have h := valsV_len p ts im wh d (i + 1) (acc ++ [(p + i, (Val.readV (p + i) (ts.getD (wh.getD i 0) ByteArray.empty)).1.1, (Val.readV (p + i) (ts.getD (wh.getD i 0) ByteArray.empty)).1.2, im)])
    rw [List.length_append] at h
    simp only [List.length_cons, List.length_nil] at h
    split
    · omega
    · simp
theorem declV_len (s : ByteArray) : (declV s).length ≤ 4 := by
  have hm : ∀ n, (propsV n).2.toNat ≤ 4 := fun n => by
    unfold propsV
    repeat (first | (split; exact by decide) | exact by decide | (show (1 : Int).toNat ≤ 4; decide))
  unfold declV
  dsimp only
  split
  · split
    · exact Nat.le_trans (valsV_len _ _ _ _ _ _ _) (by have := hm (lowV (trimV (ba (Lib.cut s.data.toList [58]).1))); simp; omega)
    · simp
  · simp
theorem rDecls_l (P : List ByteArray) (hP : P.length ≤ 100000) (hs : ∀ p ∈ P, p.size ≤ 30000) : ∀ (d n : Nat) (acc : List DCL), n + d = P.length → acc.length ≤ 4 * n → Ev (fun k => sheet_Decls.l0 k acc P (P.length : Int) (n : Int)) (acc ++ (P.drop n).flatMap fun p => (declV p).map sheet_decls.it)
  | 0, n, acc, h, ha => by
    obtain rfl : n = P.length := by omega
    rw [List.drop_length, List.flatMap_nil, List.append_nil]
    exact Ev.step (f := fun k => some acc) (fun k => by rw [sheet_Decls.l0, if_neg (by omega)]) (Ev.now _)
  | d + 1, n, acc, h, ha => by
    have hn : n < P.length := by omega
    rw [List.drop_eq_getElem_cons hn, List.flatMap_cons]
    have hz := hs _ (List.getElem_mem hn)
    have hl := declV_len P[n]
    refine Ev.step (f := fun k => sheet_Decls.l0 k (acc ++ (declV P[n]).map sheet_decls.it) P (P.length : Int) ((n + 1 : Nat) : Int)) (fun k => ?_) (ev_eq (rDecls_l P hP hs d (n + 1) (acc ++ (declV P[n]).map sheet_decls.it) (by omega) (by rw [List.length_append, List.length_map]; omega)) (by rw [List.append_assoc]))
    rw [sheet_Decls.l0, if_pos (by omega), if_pos (by omega), if_pos (by omega), rdOf_at hn, sheet_decls.f, if_pos (by omega), Option.bind_some, if_pos (by rw [List.length_map]; omega), w64s n (by omega)]
theorem rDecls (s : ByteArray) (hs : s.size ≤ 30000) : Ev (fun k => sheet_Decls.f k s) ((declsV s).map sheet_decls.it) := by
  have h1 := spl_len 59 s.data.toList
  rw [← Lib.size_eq] at h1
  refine Ev.congr (f := fun k => sheet_Decls.l0 k [] ((spl 59 s.data.toList).map fun l => ba (trimL l)) (((spl 59 s.data.toList).map fun l => ba (trimL l)).length : Int) ((0 : Nat) : Int)) (fun k => ?_) (ev_eq (rDecls_l _ (by rw [List.length_map]; omega) ?_ ((spl 59 s.data.toList).map fun l => ba (trimL l)).length 0 [] (Nat.zero_add _) (by simp)) ?_)
  · rw [sheet_Decls.f, scan_Split.f, if_pos (by omega), show UInt8.ofNat (59 : Int).toNat = 59 by decide, splitV_eq, Option.bind_some]
    rfl
  · intro p hp
    obtain ⟨q, hq, rfl⟩ := List.mem_map.1 hp
    have a := spl_mem 59 _ q hq
    have b := trim_len q
    rw [Lib.size_eq, ba_data]
    rw [← Lib.size_eq] at a
    omega
  · rw [List.drop_zero, List.nil_append]
    unfold declsV
    rw [List.map_flatMap, List.flatMap_map]
    rfl
theorem declsV_len (s : ByteArray) : (declsV s).length ≤ 4 * (s.size + 1) := by
  have h1 := spl_len 59 s.data.toList
  rw [← Lib.size_eq] at h1
  have h2 : ∀ l : List (List UInt8), (l.flatMap partD).length ≤ 4 * l.length := fun l => by
    induction l with
    | nil => simp
    | cons x l ih =>
      have := declV_len (ba (trimL x))
      rw [List.flatMap_cons, List.length_append, List.length_cons]
      unfold partD at ih ⊢
      omega
  have := h2 (spl 59 s.data.toList)
  unfold declsV
  omega
/-! ### the law's own declarations, and whether they are the same -/
def conv (x : DCL) : DCR := ⟨x.f0, ⟨x.f1.f0, x.f1.f1⟩, x.f2⟩
theorem awake : Ev (fun k => scrimlaw10_awake.f k) true := Ev.of (fun k => scrimlaw10_awake.mono k) (k := 60) (by decide +kernel)
end Go.Proofs.YtolfpgccebdlpaaGreatDoor.Shp
