/- scrimref08.read of the six kinds: its contract, proved by walking its text; no condition beside those that each theorem states. Printed by a program of this session (hv7.py). -/
import Derived.Test.YtmfhhlgjbjbnhaaGreatDoorHV0
import Derived.Test.YtmfhhlgjbjbnhaaGreatDoorHV3
import Derived.Test.YtmfhhlgjbjbnhaaGreatDoorHV4
import Derived.Test.YtmfhhlgjbjbnhaaGreatDoorHV5
import Derived.Test.YtmfhhlgjbjbnhaaGreatDoorHV6
import Derived.Test.YtmfhhlgjbjbnhaaGreatDoorPTd
import Derived.Deep.RegionHeld3
set_option linter.unusedVariables false
set_option linter.unusedSimpArgs false
namespace Go.Proofs.YtmfhhlgjbjbnhaaGreatDoor.HV
open Go.RowKit Go.Proofs Go.Proofs.YtmfhhlgjbjbnhaaGreatDoorW.PrintWords Go.Proofs.YtmfhhlgjbjbnhaaGreatDoorW.PrintLast Go.Proofs.YtmfhhlgjbjbnhaaGreatDoorW.PrintMore
def rdWord (l : List ByteArray) (s : ByteArray) : Int × Bool := if 0 ≤ Lib.idxOfS l s then (Lib.idxOfS l s, true) else (0, false)
def rdFin (p kind : Int) (r : Int × Bool) : Option (Int × Int × Bool) := some (kind, r.1, r.2 && Val.mayV (Val.cl p) kind r.1)
def pxT (s : ByteArray) : ByteArray := if s.toList = [48] then ⟨#[48]⟩ else if Lib.hasSuffix s.data.toList [112, 120] = true then Scn.ba (Lib.trimSuffix s.data.toList [112, 120]) else ⟨#[]⟩
def pxB (s : ByteArray) : Bool := decide (s.toList = [48]) || Lib.hasSuffix s.data.toList [112, 120]
def pcT (s : ByteArray) : ByteArray := if Lib.hasSuffix s.data.toList [37] = true then Scn.ba (Lib.trimSuffix s.data.toList [37]) else ⟨#[]⟩
/-- the kinds 1, 2, 3, 4, 6 (5, words, beside) -/
def scrimref08_read.f (k : Nat) (p kind : Int) (s : ByteArray) : Option (Int × Int × Bool) :=
  if s.size ≤ 1000 then
    (if kind = 1 then rdFin p 1 (0, decide (s.toList = [97, 117, 116, 111]))
    else if kind = 4 then (scrimref08_color.f k s).bind fun r => rdFin p 4 r
    else if kind = 5 then rdFin p 5 (rdWord (Val.wordsP (Val.cl p)) s)
    else if kind = 6 then (scrimref08_number.f k s).bind fun r => rdFin p 6 r
    else if kind = 2 then (scrimref08_number.f k (pxT s)).bind fun r => rdFin p 2 (r.1, r.2 && pxB s)
    else if kind = 3 then (scrimref08_number.f k (pcT s)).bind fun r => rdFin p 3 (r.1, r.2 && Lib.hasSuffix s.data.toList [37])
    else none)
  else none
theorem str_cell {w : World} {A : Option Addr} {n : Nat} {xs : List ByteArray} (h : Kd.C Kd.string w A n xs) (k : Nat) (hk : k < n) (hx : k < xs.length) : ∃ ad, A = some ad ∧ w.cell? (ad.add k) = some (.string xs[k]) := by
  obtain ⟨ad, e, hc⟩ := Kd.at_string h (k : Int) (by omega) (by omega)
  have hg : rdOf ByteArray.empty xs (k : Int) = xs[k] := by
    unfold rdOf
    rw [Int.toNat_natCast, List.getD, List.getElem?_eq_getElem hx]
    rfl
  rw [hg, Int.toNat_natCast] at hc
  exact ⟨ad, e, hc⟩
def lastAt (l : List ByteArray) (s : ByteArray) : Nat → Int × Bool
  | 0 => (0, false)
  | i + 1 => if l.getD i ByteArray.empty = s then ((i : Int), true) else lastAt l s i
theorem last_word (p : Nat) (s : ByteArray) : lastAt (Val.wordsP p) s (Val.wordsP p).length = rdWord (Val.wordsP p) s := by
  have all : ∀ l : List ByteArray, (l = [] ∨ (∃ a b, l = [a, b] ∧ a ≠ b) ∨ (∃ a b c, l = [a, b, c] ∧ a ≠ b ∧ a ≠ c ∧ b ≠ c) ∨ ∃ a b c d, l = [a, b, c, d] ∧ a ≠ b ∧ a ≠ c ∧ a ≠ d ∧ b ≠ c ∧ b ≠ d ∧ c ≠ d) → lastAt l s l.length = rdWord l s := by
    rintro l (rfl | ⟨a, b, rfl, h1⟩ | ⟨a, b, c, rfl, h1, h2, h3⟩ | ⟨a, b, c, d, rfl, h1, h2, h3, h4, h5, h6⟩)
    · rfl
    · unfold rdWord Lib.idxOfS
      simp only [lastAt, Lib.idxFromS, List.length_cons, List.length_nil, List.getD]
      by_cases ha : a = s
      · subst ha; simp [Ne.symm h1]
      by_cases hb : b = s
      · subst hb; simp [ha]
      · simp [ha, hb]
    · unfold rdWord Lib.idxOfS
      simp only [lastAt, Lib.idxFromS, List.length_cons, List.length_nil, List.getD]
      by_cases ha : a = s
      · subst ha; simp [Ne.symm h1, Ne.symm h2]
      by_cases hb : b = s
      · subst hb; simp [ha, Ne.symm h3]
      by_cases hc : c = s
      · subst hc; simp [ha, hb]
      · simp [ha, hb, hc]
    · unfold rdWord Lib.idxOfS
      simp only [lastAt, Lib.idxFromS, List.length_cons, List.length_nil, List.getD]
      by_cases ha : a = s
      · subst ha; simp [Ne.symm h1, Ne.symm h2, Ne.symm h3]
      by_cases hb : b = s
      · subst hb; simp [ha, Ne.symm h4, Ne.symm h5]
      by_cases hc : c = s
      · subst hc; simp [ha, hb, Ne.symm h6]
      by_cases hd : d = s
      · subst hd; simp [ha, hb, hc]
      · simp [ha, hb, hc, hd]
  apply all
  unfold Val.wordsP
  split
  · exact .inr (.inr (.inr ⟨_, _, _, _, rfl, by decide, by decide, by decide, by decide, by decide, by decide⟩))
  split
  · exact .inr (.inr (.inl ⟨_, _, _, rfl, by decide, by decide, by decide⟩))
  split
  · exact .inr (.inl ⟨_, _, rfl, by decide⟩)
  split
  · exact .inr (.inr (.inr ⟨_, _, _, _, rfl, by decide, by decide, by decide, by decide, by decide, by decide⟩))
  · exact .inl rfl
theorem leo_bind {α β : Type} {a b : Option α} (f : α → Option β) (h : LeO a b) : LeO (a.bind f) (b.bind f) := by
  intro r hr
  cases a with
  | none => cases hr
  | some x => rw [h x rfl]; exact hr
theorem scrimref08_read.mono : ∀ a0 a1 a2 k, LeO (scrimref08_read.f k a0 a1 a2) (scrimref08_read.f (k + 1) a0 a1 a2) := by
  intro a0 a1 a2 k
  unfold scrimref08_read.f
  split
  · split
    · exact LeO.refl _
    split
    · exact leo_bind _ (scrimref08_color.mono _ _)
    split
    · exact LeO.refl _
    split
    · exact leo_bind _ (scrimref08_number.mono _ _)
    split
    · exact leo_bind _ (scrimref08_number.mono _ _)
    split
    · exact leo_bind _ (scrimref08_number.mono _ _)
    · exact LeO.none _
  · exact LeO.none _
/-- what the last region needs of the world -/
structure RdAt (w : World) (kind n : Int) (W : World) : Prop where
  c0 : W.cell? ⟨w.heap.size + 1, 0, none⟩ = some (.int .i64 kind)
  c1 : W.cell? ⟨w.heap.size + 1, 1, none⟩ = some (.int .i64 n)
  r0 : W.cell? ⟨w.heap.size, 0, none⟩ = some (.int .i64 0)
  r1 : W.cell? ⟨w.heap.size, 1, none⟩ = some (.int .i64 0)
  f0 : W.frozen? ⟨w.heap.size, 0, none⟩ = false
  f1 : W.frozen? ⟨w.heap.size, 1, none⟩ = false
  f2 : W.frozen? ⟨w.heap.size + 1, 1, none⟩ = false
  sz : w.heap.size + 1 < W.heap.size
  bel : Below w.heap.size w W
theorem RdAt.below {w W W' : World} {kind n : Int} (h : RdAt w kind n W) (hb : Below W.heap.size W W') : RdAt w kind n W' := by
  have z := h.sz
  refine ⟨(hb.cell (p := ⟨_, _, none⟩) z).trans h.c0, (hb.cell (p := ⟨_, _, none⟩) z).trans h.c1, (hb.cell (p := ⟨_, _, none⟩) (by show w.heap.size < _; omega)).trans h.r0, (hb.cell (p := ⟨_, _, none⟩) (by show w.heap.size < _; omega)).trans h.r1, (hb.frozen (p := ⟨_, _, none⟩) (by show w.heap.size < _; omega)).trans h.f0, (hb.frozen (p := ⟨_, _, none⟩) (by show w.heap.size < _; omega)).trans h.f1, (hb.frozen (p := ⟨_, _, none⟩) z).trans h.f2, by have := hb.size; omega, below_then h.bel h.bel.size hb⟩
theorem RdAt.start (w : World) (kind n : Int) : RdAt w kind n ((w.alloc (.cells #[.int .i64 0, .int .i64 0] 23)).alloc (.cells #[.int .i64 kind, .int .i64 n] 23)) := by
  have e1 : (w.alloc (.cells #[.int .i64 0, .int .i64 0] 23)).heap.size = w.heap.size + 1 := alloc_size _ _
  have h8 := heap_alloc_new (w.alloc (.cells #[.int .i64 0, .int .i64 0] 23)) (.cells #[.int .i64 kind, .int .i64 n] 23)
  rw [e1] at h8
  have h6 := (heap_alloc_old (w.alloc (.cells #[.int .i64 0, .int .i64 0] 23)) (.cells #[.int .i64 kind, .int .i64 n] 23) (r := w.heap.size) (by rw [e1]; omega)).trans (heap_alloc_new w (.cells #[.int .i64 0, .int .i64 0] 23))
  have f : ∀ o, ((w.alloc (.cells #[.int .i64 0, .int .i64 0] 23)).alloc (.cells #[.int .i64 kind, .int .i64 n] 23)).frozen? ⟨w.heap.size, o, none⟩ = false := fun o => (World.frozen?_alloc_past _ _ _ (by rw [e1]; omega)).trans (World.frozen?_alloc_at _ _ _ _ rfl)
  have f2 : ((w.alloc (.cells #[.int .i64 0, .int .i64 0] 23)).alloc (.cells #[.int .i64 kind, .int .i64 n] 23)).frozen? ⟨w.heap.size + 1, 1, none⟩ = false := World.frozen?_alloc_at _ _ _ _ e1.symm
  exact ⟨(cell_of_row _ _ _ _ _ _ h8).trans rfl, (cell_of_row _ _ _ _ _ _ h8).trans rfl, (cell_of_row _ _ _ _ _ _ h6).trans rfl, (cell_of_row _ _ _ _ _ _ h6).trans rfl, f 0, f 1, f2, by rw [alloc_size, e1]; omega, ((Below.refl _ _).alloc (Nat.le_refl _) _).alloc (by rw [e1]; omega) _⟩
theorem RdAt.draws {w W : World} {kind n : Int} (h : RdAt w kind n W) (m : Nat) : RdAt w kind n (W.drewN m) := ⟨h.c0, h.c1, h.r0, h.r1, h.f0, h.f1, h.f2, h.sz, pw_below_drewN h.bel _⟩
theorem RdAt.put {w W : World} {kind n : Int} (h : RdAt w kind n W) (m : Int) : RdAt w kind m (W.setCell ⟨w.heap.size + 1, 1, none⟩ (.int .i64 m)) := by
  refine ⟨(World.cell?_setCell_other _ _ _ _ (by intro q; injection q with _ q; omega)).trans h.c0, World.cell?_setCell_same' _ _ _ (by rw [h.c1]; rfl), (World.cell?_setCell_other _ _ _ _ (by intro q; injection q with q _; omega)).trans h.r0, (World.cell?_setCell_other _ _ _ _ (by intro q; injection q with q _; omega)).trans h.r1, by rw [World.frozen?_setCell]; exact h.f0, by rw [World.frozen?_setCell]; exact h.f1, by rw [World.frozen?_setCell]; exact h.f2, ?_, h.bel.setCell (p := ⟨w.heap.size + 1, 1, none⟩) (by show w.heap.size ≤ w.heap.size + 1; omega) _⟩
  have : (W.setCell ⟨w.heap.size + 1, 1, none⟩ (.int .i64 m)).heap.size = W.heap.size := by simp
  rw [this]; exact h.sz
set_option maxHeartbeats 8000000 in
set_option maxRecDepth 100000 in
theorem scrimref08_read.calls (k : Nat) (a0 : Int) (a1 : Int) (a2 : ByteArray) (r1 : Int) (r2 : Int) (r3 : Bool) (w : World) (h : scrimref08_read.f k a0 a1 a2 = some (r1, r2, r3)) :
    Calls Tryz.prog 25 #[.int .i64 a0, .int .i64 a1, .string a2] w fun e w' => e = .returned (.tuple #[.agg #[.int .i64 r1, .int .i64 r2], .bool r3]) ∧ Below w.heap.size w w' := by
  unfold scrimref08_read.f at h
  have hs : a2.size ≤ 1000 := by
    by_cases hs : a2.size ≤ 1000
    · exact hs
    · rw [if_neg hs] at h; cases h
  rw [if_pos hs] at h
  have hM := fun kind n w => (scrimref08_May.calls a0 kind n _ w (Pure.rMay a0 kind n))
  by_cases k1 : a1 = 1
  · subst k1
    rw [if_pos rfl] at h
    unfold rdFin at h
    have e1 : (a2.toList == [97, 117, 116, 111]) = decide (a2.toList = [97, 117, 116, 111]) := Val.beq_dec _ _
    obtain ⟨B, hB⟩ : ∃ B, decide (a2.toList = [97, 117, 116, 111]) = B := ⟨_, rfl⟩
    rw [hB] at e1 h
    clear hB
    have RA := RdAt.start w 1 0
    go_enter Tryz.func25, Tryz.ntmps25
    go_upto_region 29 with (fail)
    obtain ⟨W, hW⟩ : ∃ W, ((w.alloc (Obj.cells #[.int .i64 0, .int .i64 0] 23)).alloc (Obj.cells #[.int .i64 1, .int .i64 0] 23)) = W := ⟨_, rfl⟩
    rw [hW] at RA ⊢
    have RB := fun W' (hb : Below W.heap.size W W') => RA.below hb
    clear hW e1
    obtain ⟨V, hV⟩ : ∃ V, Val.mayV (Val.cl a0) 1 0 = V := ⟨_, rfl⟩
    have hMM := fun w => hM 1 0 w
    simp only [hV] at hMM
    rw [hV] at h
    obtain ⟨k0, k1, q0, q1, f0, f1, f2, z, bel⟩ := RA
    have BEL := Lib.hid bel
    have HMM := Lib.hid hMM
    have HKEEP := Lib.hid RB
    clear hV bel hM hMM RB
    cases B with
    | false =>
      obtain ⟨rfl, rfl, rfl⟩ : r1 = 1 ∧ r2 = 0 ∧ r3 = false := by injection h with h; injection h with h1 h2; injection h2 with h2 h3; exact ⟨h1.symm, h2.symm, h3.symm⟩
      clear h HMM HKEEP
      go_region
      all_goals (go_wp2; refine bodyPost_ret (v := .tuple #[.agg #[.int .i64 1, .int .i64 0], .bool false]) (by simp [results, Tryz.results25, go_sem, q0, q1]) rfl ⟨rfl, ?_⟩; exact (BEL.out.drew.setCell (by exact Nat.le_refl _) _).setCell (by exact Nat.le_refl _) _)
    | true =>
      obtain ⟨rfl, rfl, rfl⟩ : r1 = 1 ∧ r2 = 0 ∧ r3 = V := by injection h with h; injection h with h1 h2; injection h2 with h2 h3; exact ⟨h1.symm, h2.symm, h3.symm⟩
      clear h
      have R0 := HKEEP.out W (Below.refl _ _)
      go_region_with (first | (go_at_call 12; refine (HMM.out _).mono ?_; rintro e w5 ⟨rfl, hB5⟩; obtain ⟨m0, m1, p0, p1, g0, g1, g2, zz, bb⟩ := HKEEP.out w5 (below_then (below_drew1 (Below.refl W.heap.size W)) (Nat.le_refl _) hB5); have BB := Lib.hid bb; clear bb))
      all_goals (go_wp2; refine bodyPost_ret (v := .tuple #[.agg #[.int .i64 1, .int .i64 0], .bool r3]) (by simp [results, Tryz.results25, go_sem, p0, p1]) rfl ⟨rfl, ?_⟩; exact (BB.out.setCell (by exact Nat.le_refl _) _).setCell (by exact Nat.le_refl _) _)
  by_cases k4 : a1 = 4
  · subst k4
    rw [if_neg (by omega), if_pos rfl] at h
    obtain ⟨⟨m, B⟩, e1, h⟩ := Option.bind_eq_some_iff.1 h
    unfold rdFin at h
    simp only at h
    have hC := fun w => scrimref08_color.calls k a2 m B w e1
    have RS := RdAt.start w 4 0
    clear e1
    go_enter Tryz.func25, Tryz.ntmps25
    go_upto_region 29 with (go_at_call 41; refine (hC _).mono ?_; rintro e w1 ⟨rfl, hb⟩; have R1 := RS.below (by first | exact hb | exact hb.below); clear hb RS; have hc1 := R1.c1; have hf2 := R1.f2; have R2 := R1.put m; clear R1)
    obtain ⟨W, hW⟩ : ∃ W, w1.setCell ⟨w.heap.size + 1, 1, none⟩ (.int .i64 m) = W := ⟨_, rfl⟩
    rw [hW] at R2 ⊢
    have RA := R2
    have RB := fun W' (hb : Below W.heap.size W W') => R2.below hb
    clear hW R2 hc1 hf2 hC
    obtain ⟨V, hV⟩ : ∃ V, Val.mayV (Val.cl a0) 4 m = V := ⟨_, rfl⟩
    have hMM := fun w => hM 4 m w
    simp only [hV] at hMM
    rw [hV] at h
    obtain ⟨k0, k1, q0, q1, f0, f1, f2, z, bel⟩ := RA
    have BEL := Lib.hid bel
    have HMM := Lib.hid hMM
    have HKEEP := Lib.hid RB
    clear hV bel hM hMM RB
    cases B with
    | false =>
      obtain ⟨rfl, rfl, rfl⟩ : r1 = 4 ∧ r2 = m ∧ r3 = false := by injection h with h; injection h with h1 h2; injection h2 with h2 h3; exact ⟨h1.symm, h2.symm, h3.symm⟩
      clear h HMM HKEEP
      go_region
      all_goals (go_wp2; refine bodyPost_ret (v := .tuple #[.agg #[.int .i64 4, .int .i64 r2], .bool false]) (by simp [results, Tryz.results25, go_sem, q0, q1]) rfl ⟨rfl, ?_⟩; exact (BEL.out.drew.setCell (by exact Nat.le_refl _) _).setCell (by exact Nat.le_refl _) _)
    | true =>
      obtain ⟨rfl, rfl, rfl⟩ : r1 = 4 ∧ r2 = m ∧ r3 = V := by injection h with h; injection h with h1 h2; injection h2 with h2 h3; exact ⟨h1.symm, h2.symm, h3.symm⟩
      clear h
      have R0 := HKEEP.out W (Below.refl _ _)
      go_region_with (first | (go_at_call 12; refine (HMM.out _).mono ?_; rintro e w5 ⟨rfl, hB5⟩; obtain ⟨m0, m1, p0, p1, g0, g1, g2, zz, bb⟩ := HKEEP.out w5 (below_then (below_drew1 (Below.refl W.heap.size W)) (Nat.le_refl _) hB5); have BB := Lib.hid bb; clear bb))
      all_goals (go_wp2; refine bodyPost_ret (v := .tuple #[.agg #[.int .i64 4, .int .i64 r2], .bool r3]) (by simp [results, Tryz.results25, go_sem, p0, p1]) rfl ⟨rfl, ?_⟩; exact (BB.out.setCell (by exact Nat.le_refl _) _).setCell (by exact Nat.le_refl _) _)
  by_cases k5 : a1 = 5
  · subst k5
    rw [if_neg (by omega), if_neg (by omega), if_pos rfl] at h
    have hW := fun w => scrimref08_Words.calls a0 _ w (Pure.rWords a0)
    have hl4 := Val.wordsP_le (Val.cl a0)
    rw [← last_word] at h
    obtain ⟨l, hl⟩ : ∃ l, Val.wordsP (Val.cl a0) = l := ⟨_, rfl⟩
    rw [hl] at h hl4
    simp only [hl] at hW
    unfold rdFin at h
    have RS := RdAt.start w 5 0
    have hz0 : ((w.alloc (.cells #[.int .i64 0, .int .i64 0] 23)).alloc (.cells #[.int .i64 5, .int .i64 0] 23)).heap.size = w.heap.size + 2 := by rw [alloc_size, alloc_size]
    have HZ := Lib.hid hz0
    clear hl hz0
    go_enter Tryz.func25, Tryz.ntmps25
    go_upto_region 10 with (go_at_call 31; refine (hW _).mono ?_; rintro e w0 ⟨v, rfl, hR, hb⟩)
    have R0 := Lib.hid (RS.below hb)
    have HR := Lib.hid (Kd.R_mono (ok' := fun k => w.heap.size + 2 ≤ k) (Kd.R_bound hR) (fun k hk => by have := hk.2.1; rw [HZ.out] at this; exact this))
    obtain ⟨A, c, rfl, hc, hC⟩ := Kd.R_reads hR
    clear hR hb RS hC hW
    go_wp2
    go_loopw [9, 11] (fun is i wr => ∃ j : Nat, j ≤ l.length ∧ i = .int .i64 j ∧ is = .bool (lastAt l a2 j).2 ∧ Hid (RdAt w 5 (lastAt l a2 j).1 wr ∧ ∃ B, Kd.R Kd.string 9 wr B (fun k => w.heap.size + 2 ≤ k) (.slice A l.length c) l)) (fun _ i _ => l.length - (RowKit.intOf i).toNat)
    case atStart => exact ⟨0, by omega, rfl, rfl, Lib.hid ⟨R0.out, _, HR.out⟩⟩
    case round =>
      clear R0 HR
      obtain ⟨j, hj, rfl, rfl, HH⟩ := hrel
      by_cases hlt : j < l.length
      · obtain ⟨ad, hA, hcell⟩ : ∃ ad, A = some ad ∧ wr.cell? (ad.add j) = some (.string l[j]) := by
          obtain ⟨_, B, hR⟩ := HH.out
          exact str_cell (Kd.R_reads' hR).2.2 j hlt hlt
        subst hA
        have hc1 := HH.out.1.c1
        have hf2 := HH.out.1.f2
        have eq1 : (l[j].toList == a2.toList) = decide (l[j] = a2) := Val.ba_eq _ _
        have hx : l.getD j ByteArray.empty = l[j] := by rw [List.getD, List.getElem?_eq_getElem hlt]; rfl
        have hj64 : (j : Int) < (l.length : Int) := by omega
        by_cases he : l[j] = a2
        · rw [decide_eq_true he] at eq1
          have HL := Lib.hid (show lastAt l a2 (j + 1) = ((j : Int), true) from by show (if l.getD j ByteArray.empty = a2 then _ else _) = _; rw [if_pos (hx.trans he)])
          generalize l[j] = x at hcell eq1
          clear he hx
          go_wp2
          refine ⟨⟨j + 1, by omega, by go_num, by rw [HL.out], Lib.hid ?_⟩, by simp [RowKit.intOf]; omega⟩
          obtain ⟨h1, B, h2⟩ := HH.out
          rw [HL.out]
          exact ⟨h1.put _, B, Kd.R_far (p := ⟨w.heap.size + 1, 1, none⟩) h2 (fun k hk => by show k ≠ w.heap.size + 1; omega) _⟩
        · rw [decide_eq_false he] at eq1
          have HL := Lib.hid (show lastAt l a2 (j + 1) = lastAt l a2 j from by show (if l.getD j ByteArray.empty = a2 then _ else _) = _; rw [if_neg (fun e => he (hx.symm.trans e))])
          generalize l[j] = x at hcell eq1
          clear he hx
          go_wp2
          exact ⟨⟨j + 1, by omega, by go_num, by rw [HL.out], Lib.hid (by rw [HL.out]; exact HH.out)⟩, by simp [RowKit.intOf]; omega⟩
      · obtain rfl : j = l.length := by omega
        obtain ⟨m, hm⟩ : ∃ m, (lastAt l a2 l.length).1 = m := ⟨_, rfl⟩
        obtain ⟨B, hB⟩ : ∃ B, (lastAt l a2 l.length).2 = B := ⟨_, rfl⟩
        rw [hm, hB] at h
        have RA := HH.out.1
        rw [hm] at RA
        rw [hB]
        have RB := fun W' (hb : Below wr.heap.size wr W') => RA.below hb
        clear hm hB HH hlt
        go_upto_region 29 with (fail)
        obtain ⟨W, hW⟩ : ∃ W, wr = W := ⟨_, rfl⟩
        rw [hW] at RA RB ⊢
        clear hW
        obtain ⟨V, hV⟩ : ∃ V, Val.mayV (Val.cl a0) 5 m = V := ⟨_, rfl⟩
        have hMM := fun w => hM 5 m w
        simp only [hV] at hMM
        rw [hV] at h
        obtain ⟨k0, k1, q0, q1, f0, f1, f2, z, bel⟩ := RA
        have BEL := Lib.hid bel
        have HMM := Lib.hid hMM
        have HKEEP := Lib.hid RB
        clear hV bel hM hMM RB
        cases B with
        | false =>
          obtain ⟨rfl, rfl, rfl⟩ : r1 = 5 ∧ r2 = m ∧ r3 = false := by injection h with h; injection h with h1 h2; injection h2 with h2 h3; exact ⟨h1.symm, h2.symm, h3.symm⟩
          clear h HMM HKEEP
          go_region
          all_goals (go_wp2; refine bodyPost_ret (v := .tuple #[.agg #[.int .i64 5, .int .i64 r2], .bool false]) (by simp [results, Tryz.results25, go_sem, q0, q1]) rfl ⟨rfl, ?_⟩; exact (BEL.out.drew.setCell (by exact Nat.le_refl _) _).setCell (by exact Nat.le_refl _) _)
        | true =>
          obtain ⟨rfl, rfl, rfl⟩ : r1 = 5 ∧ r2 = m ∧ r3 = V := by injection h with h; injection h with h1 h2; injection h2 with h2 h3; exact ⟨h1.symm, h2.symm, h3.symm⟩
          clear h
          have R0 := HKEEP.out W (Below.refl _ _)
          go_region_with (first | (go_at_call 12; refine (HMM.out _).mono ?_; rintro e w5 ⟨rfl, hB5⟩; obtain ⟨m0, m1, p0, p1, g0, g1, g2, zz, bb⟩ := HKEEP.out w5 (below_then (below_drew1 (Below.refl W.heap.size W)) (Nat.le_refl _) hB5); have BB := Lib.hid bb; clear bb))
          all_goals (go_wp2; refine bodyPost_ret (v := .tuple #[.agg #[.int .i64 5, .int .i64 r2], .bool r3]) (by simp [results, Tryz.results25, go_sem, p0, p1]) rfl ⟨rfl, ?_⟩; exact (BB.out.setCell (by exact Nat.le_refl _) _).setCell (by exact Nat.le_refl _) _)
  by_cases k6 : a1 = 6
  · subst k6
    rw [if_neg (by omega), if_neg (by omega), if_neg (by omega), if_pos rfl] at h
    obtain ⟨⟨m, B⟩, e1, h⟩ := Option.bind_eq_some_iff.1 h
    unfold rdFin at h
    simp only at h
    have hC := fun w => scrimref08_number.calls k a2 m B w e1
    have RS := RdAt.start w 6 0
    clear e1
    go_enter Tryz.func25, Tryz.ntmps25
    go_upto_region 29 with (go_at_call 42; refine (hC _).mono ?_; rintro e w1 ⟨rfl, hb⟩; have R1 := RS.below (by first | exact hb | exact hb.below); clear hb RS; have hc1 := R1.c1; have hf2 := R1.f2; have R2 := R1.put m; clear R1)
    obtain ⟨W, hW⟩ : ∃ W, w1.setCell ⟨w.heap.size + 1, 1, none⟩ (.int .i64 m) = W := ⟨_, rfl⟩
    rw [hW] at R2 ⊢
    have RA := R2
    have RB := fun W' (hb : Below W.heap.size W W') => R2.below hb
    clear hW R2 hc1 hf2 hC
    obtain ⟨V, hV⟩ : ∃ V, Val.mayV (Val.cl a0) 6 m = V := ⟨_, rfl⟩
    have hMM := fun w => hM 6 m w
    simp only [hV] at hMM
    rw [hV] at h
    obtain ⟨k0, k1, q0, q1, f0, f1, f2, z, bel⟩ := RA
    have BEL := Lib.hid bel
    have HMM := Lib.hid hMM
    have HKEEP := Lib.hid RB
    clear hV bel hM hMM RB
    cases B with
    | false =>
      obtain ⟨rfl, rfl, rfl⟩ : r1 = 6 ∧ r2 = m ∧ r3 = false := by injection h with h; injection h with h1 h2; injection h2 with h2 h3; exact ⟨h1.symm, h2.symm, h3.symm⟩
      clear h HMM HKEEP
      go_region
      all_goals (go_wp2; refine bodyPost_ret (v := .tuple #[.agg #[.int .i64 6, .int .i64 r2], .bool false]) (by simp [results, Tryz.results25, go_sem, q0, q1]) rfl ⟨rfl, ?_⟩; exact (BEL.out.drew.setCell (by exact Nat.le_refl _) _).setCell (by exact Nat.le_refl _) _)
    | true =>
      obtain ⟨rfl, rfl, rfl⟩ : r1 = 6 ∧ r2 = m ∧ r3 = V := by injection h with h; injection h with h1 h2; injection h2 with h2 h3; exact ⟨h1.symm, h2.symm, h3.symm⟩
      clear h
      have R0 := HKEEP.out W (Below.refl _ _)
      go_region_with (first | (go_at_call 12; refine (HMM.out _).mono ?_; rintro e w5 ⟨rfl, hB5⟩; obtain ⟨m0, m1, p0, p1, g0, g1, g2, zz, bb⟩ := HKEEP.out w5 (below_then (below_drew1 (Below.refl W.heap.size W)) (Nat.le_refl _) hB5); have BB := Lib.hid bb; clear bb))
      all_goals (go_wp2; refine bodyPost_ret (v := .tuple #[.agg #[.int .i64 6, .int .i64 r2], .bool r3]) (by simp [results, Tryz.results25, go_sem, p0, p1]) rfl ⟨rfl, ?_⟩; exact (BB.out.setCell (by exact Nat.le_refl _) _).setCell (by exact Nat.le_refl _) _)
  by_cases k2 : a1 = 2
  · subst k2
    rw [if_neg (by omega), if_neg (by omega), if_neg (by omega), if_neg (by omega), if_pos rfl] at h
    obtain ⟨⟨m, B⟩, e1, h⟩ := Option.bind_eq_some_iff.1 h
    unfold rdFin at h
    simp only at h
    have hE := Pure.rEnds a2 ⟨#[112, 120]⟩ hs (by decide)
    have hN := fun w => scrimref08_number.calls k (pxT a2) m B w e1
    have RS := RdAt.start w 2 0
    clear e1
    have ez : (a2.toList == [48]) = decide (a2.toList = [48]) := Val.beq_dec _ _
    unfold pxT pxB at *
    rw [show (⟨#[112, 120]⟩ : ByteArray).data.toList = [112, 120] from rfl] at hE
    obtain ⟨S, hS⟩ : ∃ S, Lib.hasSuffix a2.data.toList [112, 120] = S := ⟨_, rfl⟩
    rw [hS] at hE h
    simp only [hS] at hN
    clear hS
    obtain ⟨Z, hZ⟩ : ∃ Z, decide (a2.toList = [48]) = Z := ⟨_, rfl⟩
    have hZ2 : a2.toList = [48] ↔ Z = true := by rw [← hZ, decide_eq_true_iff]
    rw [hZ] at ez h
    simp only [hZ2] at hN
    clear hZ hZ2
    cases Z
    all_goals cases S
    all_goals
      simp only [Bool.false_eq_true, if_false, if_true, Bool.or_true, Bool.or_false, Bool.true_or, Bool.false_or, Bool.and_true, Bool.and_false, Bool.false_and] at hE hN h
      have hEC := fun w => scrimref08_ends.calls a2 ⟨#[112, 120]⟩ _ _ w hE
      cases B
      all_goals
        go_enter Tryz.func25, Tryz.ntmps25
        go_upto_region 29 with (first | (go_at_call 43; refine (hEC _).mono ?_; rintro e w0 ⟨rfl, hd⟩; have R0 := RS.below hd.below; clear hd) | (go_at_call 42; refine (hN _).mono ?_; rintro e w1 ⟨rfl, hd⟩; have R1 := R0.below hd.below; clear hd RS R0; have hc1 := R1.c1; have hf2 := R1.f2; have R2 := R1.put m; clear R1))
        obtain ⟨W, hW⟩ : ∃ W, w1.setCell ⟨w.heap.size + 1, 1, none⟩ (.int .i64 m) = W := ⟨_, rfl⟩
        rw [hW] at R2 ⊢
        have RA := R2
        have RB := fun W' (hb : Below W.heap.size W W') => R2.below hb
        clear hW R2 hc1 hf2 hN hEC hE
        try simp only [Bool.false_and, Bool.true_and] at h
        obtain ⟨V, hV⟩ : ∃ V, Val.mayV (Val.cl a0) 2 m = V := ⟨_, rfl⟩
        have hMM := fun w => hM 2 m w
        simp only [hV] at hMM
        try rw [hV] at h
        obtain ⟨k0, k1, q0, q1, f0, f1, f2, z, bel⟩ := RA
        have BEL := Lib.hid bel
        have HMM := Lib.hid hMM
        have HKEEP := Lib.hid RB
        clear hV bel hMM RB
        first
        | (obtain ⟨rfl, rfl, rfl⟩ : r1 = 2 ∧ r2 = m ∧ r3 = false := by injection h with h; injection h with h1 h2; injection h2 with h2 h3; exact ⟨h1.symm, h2.symm, h3.symm⟩
           clear h HMM HKEEP
           go_region
           all_goals (go_wp2; refine bodyPost_ret (v := .tuple #[.agg #[.int .i64 2, .int .i64 r2], .bool false]) (by simp [results, Tryz.results25, go_sem, q0, q1]) rfl ⟨rfl, ?_⟩; exact (BEL.out.drew.setCell (by exact Nat.le_refl _) _).setCell (by exact Nat.le_refl _) _))
        | (obtain ⟨rfl, rfl, rfl⟩ : r1 = 2 ∧ r2 = m ∧ r3 = V := by injection h with h; injection h with h1 h2; injection h2 with h2 h3; exact ⟨h1.symm, h2.symm, h3.symm⟩
           clear h
           have R0 := HKEEP.out W (Below.refl _ _)
           go_region_with (first | (go_at_call 12; refine (HMM.out _).mono ?_; rintro e w5 ⟨rfl, hB5⟩; obtain ⟨m0, m1, p0, p1, g0, g1, g2, zz, bb⟩ := HKEEP.out w5 (below_then (below_drew1 (Below.refl W.heap.size W)) (Nat.le_refl _) hB5); have BB := Lib.hid bb; clear bb))
           all_goals (go_wp2; refine bodyPost_ret (v := .tuple #[.agg #[.int .i64 2, .int .i64 r2], .bool r3]) (by simp [results, Tryz.results25, go_sem, p0, p1]) rfl ⟨rfl, ?_⟩; exact (BB.out.setCell (by exact Nat.le_refl _) _).setCell (by exact Nat.le_refl _) _))
  by_cases k3 : a1 = 3
  · subst k3
    rw [if_neg (by omega), if_neg (by omega), if_neg (by omega), if_neg (by omega), if_neg (by omega), if_pos rfl] at h
    obtain ⟨⟨m, B⟩, e1, h⟩ := Option.bind_eq_some_iff.1 h
    unfold rdFin at h
    simp only at h
    have hE := Pure.rEnds a2 ⟨#[37]⟩ hs (by decide)
    have hN := fun w => scrimref08_number.calls k (pcT a2) m B w e1
    have RS := RdAt.start w 3 0
    clear e1
    unfold pcT at *
    rw [show (⟨#[37]⟩ : ByteArray).data.toList = [37] from rfl] at hE
    obtain ⟨S, hS⟩ : ∃ S, Lib.hasSuffix a2.data.toList [37] = S := ⟨_, rfl⟩
    rw [hS] at hE h
    simp only [hS] at hN
    clear hS
    cases S
    all_goals
      simp only [Bool.false_eq_true, if_false, if_true, Bool.or_true, Bool.or_false, Bool.true_or, Bool.false_or, Bool.and_true, Bool.and_false, Bool.false_and] at hE hN h
      have hEC := fun w => scrimref08_ends.calls a2 ⟨#[37]⟩ _ _ w hE
      cases B
      all_goals
        go_enter Tryz.func25, Tryz.ntmps25
        go_upto_region 29 with (first | (go_at_call 43; refine (hEC _).mono ?_; rintro e w0 ⟨rfl, hd⟩; have R0 := RS.below hd.below; clear hd) | (go_at_call 42; refine (hN _).mono ?_; rintro e w1 ⟨rfl, hd⟩; have R1 := R0.below hd.below; clear hd RS R0; have hc1 := R1.c1; have hf2 := R1.f2; have R2 := R1.put m; clear R1))
        obtain ⟨W, hW⟩ : ∃ W, w1.setCell ⟨w.heap.size + 1, 1, none⟩ (.int .i64 m) = W := ⟨_, rfl⟩
        rw [hW] at R2 ⊢
        have RA := R2
        have RB := fun W' (hb : Below W.heap.size W W') => R2.below hb
        clear hW R2 hc1 hf2 hN hEC hE
        try simp only [Bool.false_and, Bool.true_and] at h
        obtain ⟨V, hV⟩ : ∃ V, Val.mayV (Val.cl a0) 3 m = V := ⟨_, rfl⟩
        have hMM := fun w => hM 3 m w
        simp only [hV] at hMM
        try rw [hV] at h
        obtain ⟨k0, k1, q0, q1, f0, f1, f2, z, bel⟩ := RA
        have BEL := Lib.hid bel
        have HMM := Lib.hid hMM
        have HKEEP := Lib.hid RB
        clear hV bel hMM RB
        first
        | (obtain ⟨rfl, rfl, rfl⟩ : r1 = 3 ∧ r2 = m ∧ r3 = false := by injection h with h; injection h with h1 h2; injection h2 with h2 h3; exact ⟨h1.symm, h2.symm, h3.symm⟩
           clear h HMM HKEEP
           go_region
           all_goals (go_wp2; refine bodyPost_ret (v := .tuple #[.agg #[.int .i64 3, .int .i64 r2], .bool false]) (by simp [results, Tryz.results25, go_sem, q0, q1]) rfl ⟨rfl, ?_⟩; exact (BEL.out.drew.setCell (by exact Nat.le_refl _) _).setCell (by exact Nat.le_refl _) _))
        | (obtain ⟨rfl, rfl, rfl⟩ : r1 = 3 ∧ r2 = m ∧ r3 = V := by injection h with h; injection h with h1 h2; injection h2 with h2 h3; exact ⟨h1.symm, h2.symm, h3.symm⟩
           clear h
           have R0 := HKEEP.out W (Below.refl _ _)
           go_region_with (first | (go_at_call 12; refine (HMM.out _).mono ?_; rintro e w5 ⟨rfl, hB5⟩; obtain ⟨m0, m1, p0, p1, g0, g1, g2, zz, bb⟩ := HKEEP.out w5 (below_then (below_drew1 (Below.refl W.heap.size W)) (Nat.le_refl _) hB5); have BB := Lib.hid bb; clear bb))
           all_goals (go_wp2; refine bodyPost_ret (v := .tuple #[.agg #[.int .i64 3, .int .i64 r2], .bool r3]) (by simp [results, Tryz.results25, go_sem, p0, p1]) rfl ⟨rfl, ?_⟩; exact (BB.out.setCell (by exact Nat.le_refl _) _).setCell (by exact Nat.le_refl _) _))
  rw [if_neg k1, if_neg k4, if_neg k5, if_neg k6, if_neg k2, if_neg k3] at h
  cases h
end Go.Proofs.YtmfhhlgjbjbnhaaGreatDoor.HV
