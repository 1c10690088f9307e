/- selector.Print: a contract proved by walking its text; no condition beside those that each theorem states. -/
import Derived.Test.YtolfpgccebdlpaaGreatDoorSmg
import Derived.Test.YtolfpgccebdlpaaGreatDoorVaG
import Derived.Handy
import Derived.Test.YtolfpgccebdlpaaGreatDoorScC
set_option linter.unusedVariables false
set_option linter.unusedSimpArgs false
namespace Go.Proofs.Tok
open Go.RowKit Go.Lib Go.Proofs.YtolfpgccebdlpaaGreatDoorW.PrintWords Go.Proofs.YtolfpgccebdlpaaGreatDoorW.PrintLast Go.Proofs.YtolfpgccebdlpaaGreatDoorW.PrintMore
def Bld (b : Nat) (l : List UInt8) (w : World) : Prop := Lib.IsBuilder 99 5 b b (Lib.byteCells l) w ∧ b ≤ w.heap.size
theorem bld_write (b : Nat) (l : List UInt8) (s : ByteArray) (w : World) (h : Bld b l w) (hl : l.length + s.size ≤ 140737488355328) :
    Calls Tryz.prog 56 #[.pointer (some ⟨b, 0, none⟩), .string s] w fun e w' => e = .returned (.tuple #[.int .i64 s.size, .nilIface]) ∧ Bld b (l ++ s.data.toList) w' ∧ Below b w w' := by
  have hlen : (Lib.byteCells l).length = l.length := by simp [Lib.byteCells]
  refine (Tryz.Builder_WriteString b b (Lib.byteCells l) s w h.1 (by rw [hlen]; exact hl) h.2).mono ?_
  rintro e w' ⟨rfl, hb, hB⟩
  refine ⟨rfl, ⟨.inr ?_, Nat.le_trans h.2 hB.size⟩, hB⟩
  have e1 : Lib.byteCells (l ++ s.data.toList) = Lib.byteCells l ++ Lib.strCells s := by simp [Lib.byteCells, Lib.strCells]
  rw [e1]
  exact hb
theorem bld_len (b : Nat) (l : List UInt8) (w : World) (h : Bld b l w) :
    Calls Tryz.prog 100 #[.pointer (some ⟨b, 0, none⟩)] w fun e w' => e = .returned (.int .i64 l.length) ∧ w' = w := by
  have hlen : (Lib.byteCells l).length = l.length := by simp [Lib.byteCells]
  have := Tryz.Builder_Len b b (Lib.byteCells l) w h.1
  rwa [hlen] at this
theorem bld_string (b : Nat) (l : List UInt8) (w : World) (h : Bld b l w) :
    Calls Tryz.prog 58 #[.pointer (some ⟨b, 0, none⟩)] w fun e w' => e = .returned (.string ⟨l.toArray⟩) ∧ Below b w w' := Tryz.Builder_String_any b b l w h.1 h.2
theorem bld_fresh (w : World) : Bld w.heap.size [] (w.alloc (.cells #[.pointer none, .slice none 0 0] 99)) := ⟨Lib.fresh_isBuilder _ _ w, by rw [alloc_size]; omega⟩
theorem bld_after {b : Nat} {w1 wr w2 : World} (h : Below b w1 wr) (hB : Below b wr w2) : Below b w1 w2 := h.trans hB
theorem bld_below {w w1 w2 : World} {b : Nat} (h : Below w.heap.size w w1) (hs : b ≤ w1.heap.size) (hB : Below b w1 w2) (hb : w.heap.size ≤ b := by omega) : Below w.heap.size w w2 :=
  ⟨hB.os.trans h.os, hB.tape.trans h.tape, hB.output.trans h.output, Nat.le_trans h.size hB.size, fun k hk => (hB.block k (Nat.lt_of_lt_of_le hk hb)).trans (h.block k hk)⟩
def preW (c : UInt8) (l : List ByteArray) : List UInt8 := l.flatMap fun s => c :: s.data.toList
def textL (x : Smp) : List UInt8 := x.1.data.toList ++ preW 35 x.2.1 ++ preW 46 x.2.2.1 ++ (if x.2.2.2.1 = true then [58, 108, 105, 110, 107] else []) ++ (if x.2.2.2.2 = true then [58, 118, 105, 115, 105, 116, 101, 100] else [])
def textV (x : Smp) : ByteArray := if textL x = [] then ⟨#[42]⟩ else ⟨(textL x).toArray⟩
theorem preW_next (c : UInt8) {l : List ByteArray} {k : Nat} (h : k < l.length) : preW c (l.take (k + 1)) = preW c (l.take k) ++ c :: l[k].data.toList := by
  unfold preW
  rw [List.take_succ_eq_append_getElem h, List.flatMap_append, List.flatMap_cons, List.flatMap_nil, List.append_nil]
theorem preW_le (c : UInt8) (l : List ByteArray) (k : Nat) : (preW c (l.take k)).length ≤ (preW c l).length := by
  conv => rhs; rw [← List.take_append_drop k l]
  simp only [preW, List.flatMap_append, List.length_append]
  omega
set_option maxHeartbeats 1000000 in
set_option maxRecDepth 400000 in
theorem text_any (x : Smp) (A1 A2 : Option Addr) (c1 c2 : Nat) (w : World) (C1 : Kd.C Kd.string w A1 x.2.1.length x.2.1) (C2 : Kd.C Kd.string w A2 x.2.2.1.length x.2.2.1) (hn : x.2.1.length ≤ 1000000 ∧ x.2.2.1.length ≤ 1000000) (hs : x.1.size + (preW 35 x.2.1).length + (preW 46 x.2.2.1).length ≤ 1000000) :
    Calls Tryz.prog 57 #[.agg #[.string x.1, .slice A1 x.2.1.length c1, .slice A2 x.2.2.1.length c2, .bool x.2.2.2.1, .bool x.2.2.2.2]] w fun e w' => e = .returned (.string (textV x)) ∧ Below w.heap.size w w' := by
  obtain ⟨t, l1, l2, b3, b4⟩ := x
  simp only at C1 C2 hn hs
  obtain ⟨w0, hw0⟩ : ∃ w0, w.alloc (.cells #[.string t, .slice A1 l1.length c1, .slice A2 l2.length c2, .bool b3, .bool b4] 80) = w0 := ⟨_, rfl⟩
  obtain ⟨w1, hw1⟩ : ∃ w1, w0.alloc (.cells #[.pointer none, .slice none 0 0] 99) = w1 := ⟨_, rfl⟩
  have b0 : Below w.heap.size w w0 := by rw [← hw0]; exact below_alloc (Below.refl _ _) _
  have sz0 : w0.heap.size = w.heap.size + 1 := by rw [← hw0]; exact alloc_size _ _
  have b1 : Below w0.heap.size w0 w1 := by rw [← hw1]; exact below_alloc (Below.refl _ _) _
  have F0 : Bld (w.heap.size + 1) [] w1 := by rw [← hw1, ← sz0]; exact bld_fresh w0
  have k0 : ∀ j v, (#[.string t, .slice A1 l1.length c1, .slice A2 l2.length c2, .bool b3, .bool b4] : Array Value)[j]? = some v → w1.cell? ⟨w.heap.size, j, none⟩ = some v := by
    intro j v hj
    refine (b1.cell (p := ⟨w.heap.size, j, none⟩) (by show w.heap.size < _; omega)).trans ?_
    rw [← hw0]
    exact alloc_cell _ _ _ _ _ hj
  have B1 := Aside0.mk (below_then b0 b0.size b1)
  have hsz : w.heap.size + 1 ≤ w1.heap.size := by have := b1.size; omega
  have K0 := Aside0.mk k0
  have FB := Aside0.mk F0
  have E1 := Aside0.mk hw1
  have E0 := Aside0.mk hw0
  have HS := Aside0.mk hs
  have D1 := Aside0.mk C1
  have D2 := Aside0.mk C2
  have h0 : w1.cell? ⟨w.heap.size, 0, none⟩ = some (.string t) := k0 0 _ rfl
  clear k0 b0 b1 sz0 hw0 hw1 F0 hs C1 C2
  have hu44 := Tryz.underlying80
  go_enter Tryz.func57, Tryz.ntmps57
  go_upto_region 2 with (fail)
  rw [E0.out, E1.out]
  go_wp2_with (first | (go_at_call 56; with_reducible refine (bld_write (w.heap.size + 1) [] t _ FB.out (by have := HS.out; simp; omega)).mono ?_; rintro e w2 ⟨rfl, hF, hB⟩; have F2 := Aside0.mk hF; have B2 := Aside0.mk hB; have q1 := (hB.cell (p := ⟨w.heap.size, 1, none⟩) (by show w.heap.size < _; omega)).trans (K0.out 1 (.slice A1 l1.length c1) rfl); clear hF hB))
  go_loopw [5, 14, 15, 16, 17, 18, 19, 20, 21] (fun _ i _ _ _ _ _ _ _ wr => ∃ k : Nat, k ≤ l1.length ∧ i = .int .i64 k ∧ Aside0 (Bld (w.heap.size + 1) (t.data.toList ++ preW 35 (l1.take k)) wr) ∧ Aside0 (Below (w.heap.size + 1) w1 wr)) (fun _ i _ _ _ _ _ _ _ _ => l1.length - (RowKit.intOf i).toNat)
  case atStart => exact ⟨0, Nat.zero_le _, rfl, ⟨by have := F2.out; simpa [preW] using this⟩, B2⟩
  case round =>
    clear F2 B2 q1
    obtain ⟨k, hk, rfl, FR, BR⟩ := hrel
    by_cases hlt : k < l1.length
    · have g1 : decide ((k : Int) < (l1.length : Int)) = true := decide_eq_true (by omega)
      obtain ⟨ad, ea, hc⟩ := str_cell D1.out k hlt hlt
      subst ea
      have hbl := World.block_lt_of_cell? _ _ hc
      have hc2 : wr.cell? (ad.add k) = some (.string l1[k]) := (BR.out.cell (Nat.lt_succ_of_lt hbl)).trans ((B1.out.cell hbl).trans hc)
      have hle := preW_le 35 l1 (k + 1)
      rw [preW_next 35 hlt] at hle
      have hle2 : (preW 35 (l1.take k)).length + (1 + l1[k].size) ≤ (preW 35 l1).length := by
        rw [List.length_append, List.length_cons, ← Lib.size_eq] at hle
        omega
      have NX := Aside0.mk (preW_next 35 hlt)
      have LE := Aside0.mk hle2
      clear hc hbl hle hle2
      generalize l1[k] = y at hc2 NX LE
      have hq : ¬ (9223372036854775807 < 1 + y.size) := by have := LE.out; have := HS.out; omega
      go_wp2_with (first | (go_at_call 56; with_reducible refine (bld_write (w.heap.size + 1) _ _ _ FR.out (by have := LE.out; have := HS.out; have h1 := Lib.size_eq t; simp only [List.length_append, ByteArray.size_append]; have : ByteArray.size ⟨#[35]⟩ = 1 := rfl; omega)).mono ?_; rintro e w2 ⟨rfl, hF, hB⟩; have F2 := Aside0.mk hF; have B2 := Aside0.mk (bld_after BR.out hB); clear hF hB))
      refine ⟨⟨k + 1, by omega, by go_num, ⟨?_⟩, B2⟩, by simp [RowKit.intOf]; omega⟩
      have := F2.out
      rw [NX.out]
      simpa [List.append_assoc] using this
    · obtain rfl : k = l1.length := by omega
      have g1 : decide ((l1.length : Int) < (l1.length : Int)) = false := decide_eq_false (by omega)
      have hF := FR.out
      rw [List.take_length] at hF
      have F3 := Aside0.mk hF
      have q2 := (BR.out.cell (p := ⟨w.heap.size, 2, none⟩) (by show w.heap.size < _; omega)).trans (K0.out 2 (.slice A2 l2.length c2) rfl)
      clear hF FR
      go_wp2
      go_loopw [7, 25, 26, 27, 28, 29, 30, 31, 32] (fun _ i _ _ _ _ _ _ _ wr => ∃ k : Nat, k ≤ l2.length ∧ i = .int .i64 k ∧ Aside0 (Bld (w.heap.size + 1) (t.data.toList ++ preW 35 l1 ++ preW 46 (l2.take k)) wr) ∧ Aside0 (Below (w.heap.size + 1) w1 wr)) (fun _ i _ _ _ _ _ _ _ _ => l2.length - (RowKit.intOf i).toNat)
      case atStart => exact ⟨0, Nat.zero_le _, rfl, ⟨by have := F3.out; simpa [preW] using this⟩, BR⟩
      case round =>
        clear F3 BR q2
        obtain ⟨k, hk, rfl, FR, BR⟩ := hrel
        by_cases hlt : k < l2.length
        · have g1 : decide ((k : Int) < (l2.length : Int)) = true := decide_eq_true (by omega)
          obtain ⟨ad, ea, hc⟩ := str_cell D2.out k hlt hlt
          subst ea
          have hbl := World.block_lt_of_cell? _ _ hc
          have hc2 : wr.cell? (ad.add k) = some (.string l2[k]) := (BR.out.cell (Nat.lt_succ_of_lt hbl)).trans ((B1.out.cell hbl).trans hc)
          have hle := preW_le 46 l2 (k + 1)
          rw [preW_next 46 hlt] at hle
          have hle2 : (preW 46 (l2.take k)).length + (1 + l2[k].size) ≤ (preW 46 l2).length := by
            rw [List.length_append, List.length_cons, ← Lib.size_eq] at hle
            omega
          have NX := Aside0.mk (preW_next 46 hlt)
          have LE := Aside0.mk hle2
          clear hc hbl hle hle2
          generalize l2[k] = y at hc2 NX LE
          have hq : ¬ (9223372036854775807 < 1 + y.size) := by have := LE.out; have := HS.out; omega
          go_wp2_with (first | (go_at_call 56; with_reducible refine (bld_write (w.heap.size + 1) _ _ _ FR.out (by have := LE.out; have := HS.out; have h1 := Lib.size_eq t; simp only [List.length_append, ByteArray.size_append]; have : ByteArray.size ⟨#[46]⟩ = 1 := rfl; omega)).mono ?_; rintro e w2 ⟨rfl, hF, hB⟩; have F2 := Aside0.mk hF; have B2 := Aside0.mk (bld_after BR.out hB); clear hF hB))
          refine ⟨⟨k + 1, by omega, by go_num, ⟨?_⟩, B2⟩, by simp [RowKit.intOf]; omega⟩
          have := F2.out
          rw [NX.out]
          simpa [List.append_assoc] using this
        · obtain rfl : k = l2.length := by omega
          have g1 : decide ((l2.length : Int) < (l2.length : Int)) = false := decide_eq_false (by omega)
          have hF := FR.out
          rw [List.take_length] at hF
          have q3 := (BR.out.cell (p := ⟨w.heap.size, 3, none⟩) (by show w.heap.size < _; omega)).trans (K0.out 3 (.bool b3) rfl)
          have q4 := (BR.out.cell (p := ⟨w.heap.size, 4, none⟩) (by show w.heap.size < _; omega)).trans (K0.out 4 (.bool b4) rfl)
          have hT : textL (t, l1, l2, b3, b4) = t.data.toList ++ preW 35 l1 ++ preW 46 l2 ++ (if b3 = true then [58, 108, 105, 110, 107] else []) ++ (if b4 = true then [58, 118, 105, 115, 105, 116, 101, 100] else []) := rfl
          have bd : (t.data.toList ++ preW 35 l1 ++ preW 46 l2).length ≤ 1000000 := by have := HS.out; have h1 := Lib.size_eq t; simp only [List.length_append]; omega
          obtain ⟨X, hX⟩ : ∃ X, t.data.toList ++ preW 35 l1 ++ preW 46 l2 = X := ⟨_, rfl⟩
          rw [hX] at hT bd hF
          have TT := Aside0.mk hT
          have BD := Aside0.mk bd
          have FX := Aside0.mk hF
          have BX := Aside0.mk (BR.out)
          clear hT bd hF hX FR BR
          cases b3 with
          | true =>
            cases b4 with
            | true =>
              have hne : (((X ++ [58, 108, 105, 110, 107] ++ [58, 118, 105, 115, 105, 116, 101, 100]).length : Int) == 0) = false := beq_eq_false_iff_ne.2 (by simp only [List.length_append, List.length_cons]; omega)
              have hne2 : ¬ ((X ++ [58, 108, 105, 110, 107] ++ [58, 118, 105, 115, 105, 116, 101, 100]).length = 0) := by simp only [List.length_append, List.length_cons]; omega
              have hv : textV (t, l1, l2, true, true) = ⟨(X ++ [58, 108, 105, 110, 107] ++ [58, 118, 105, 115, 105, 116, 101, 100]).toArray⟩ := by unfold textV; rw [TT.out, if_neg (by simp)]; simp
              have HV := Aside0.mk hv
              clear hv
              go_wp2_with (first | (go_at_call 56; with_reducible refine (bld_write (w.heap.size + 1) _ _ _ F7.out (by have := BD.out; (try simp only [List.length_append]); have : ByteArray.size ⟨#[58, 118, 105, 115, 105, 116, 101, 100]⟩ = 8 := rfl; have : (⟨#[58, 108, 105, 110, 107]⟩ : ByteArray).data.toList.length = 5 := rfl; have : ([58, 108, 105, 110, 107] : List UInt8).length = 5 := rfl; omega)).mono ?_; rintro e w4 ⟨rfl, hF, hB⟩; have F8 := Aside0.mk hF; have B8 := Aside0.mk (bld_after B7.out hB); clear hF hB) | (go_at_call 56; with_reducible refine (bld_write (w.heap.size + 1) _ _ _ FX.out (by have := BD.out; (try simp only [List.length_append]); have : ByteArray.size ⟨#[58, 108, 105, 110, 107]⟩ = 5 := rfl; have : ByteArray.size ⟨#[58, 118, 105, 115, 105, 116, 101, 100]⟩ = 8 := rfl; have : (⟨#[58, 108, 105, 110, 107]⟩ : ByteArray).data.toList.length = 5 := rfl; have : ([58, 108, 105, 110, 107] : List UInt8).length = 5 := rfl; omega)).mono ?_; rintro e w4 ⟨rfl, hF, hB⟩; have F7 := Aside0.mk hF; have B7 := Aside0.mk (bld_after BX.out hB); have r4 := (hB.cell (p := ⟨w.heap.size, 4, none⟩) (by show w.heap.size < _; omega)).trans q4; clear hF hB) | (go_at_call 100; with_reducible refine (bld_len (w.heap.size + 1) _ _ F8.out).mono ?_; rintro e w5 ⟨rfl, rfl⟩) | (go_at_call 58; with_reducible refine (bld_string (w.heap.size + 1) _ _ F8.out).mono ?_; rintro e w6 ⟨rfl, hB6⟩; have B6 := Aside0.mk (bld_after B8.out hB6); clear hB6))
              go_ret
              exact ⟨by rw [HV.out]; first | rfl | simp, bld_below B1.out hsz B6.out⟩
            | false =>
              have hne : (((X ++ [58, 108, 105, 110, 107]).length : Int) == 0) = false := beq_eq_false_iff_ne.2 (by simp only [List.length_append, List.length_cons]; omega)
              have hne2 : ¬ ((X ++ [58, 108, 105, 110, 107]).length = 0) := by simp only [List.length_append, List.length_cons]; omega
              have hv : textV (t, l1, l2, true, false) = ⟨(X ++ [58, 108, 105, 110, 107]).toArray⟩ := by unfold textV; rw [TT.out, if_neg (by simp)]; simp
              have HV := Aside0.mk hv
              clear hv
              go_wp2_with (first | (go_at_call 56; with_reducible refine (bld_write (w.heap.size + 1) _ _ _ FX.out (by have := BD.out; (try simp only [List.length_append]); have : ByteArray.size ⟨#[58, 108, 105, 110, 107]⟩ = 5 := rfl; have : ByteArray.size ⟨#[58, 118, 105, 115, 105, 116, 101, 100]⟩ = 8 := rfl; have : (⟨#[58, 108, 105, 110, 107]⟩ : ByteArray).data.toList.length = 5 := rfl; have : ([58, 108, 105, 110, 107] : List UInt8).length = 5 := rfl; omega)).mono ?_; rintro e w4 ⟨rfl, hF, hB⟩; have F7 := Aside0.mk hF; have B7 := Aside0.mk (bld_after BX.out hB); have r4 := (hB.cell (p := ⟨w.heap.size, 4, none⟩) (by show w.heap.size < _; omega)).trans q4; clear hF hB) | (go_at_call 100; with_reducible refine (bld_len (w.heap.size + 1) _ _ F7.out).mono ?_; rintro e w5 ⟨rfl, rfl⟩) | (go_at_call 58; with_reducible refine (bld_string (w.heap.size + 1) _ _ F7.out).mono ?_; rintro e w6 ⟨rfl, hB6⟩; have B6 := Aside0.mk (bld_after B7.out hB6); clear hB6))
              go_ret
              exact ⟨by rw [HV.out]; first | rfl | simp, bld_below B1.out hsz B6.out⟩
          | false =>
            cases b4 with
            | true =>
              have hne : (((X ++ [58, 118, 105, 115, 105, 116, 101, 100]).length : Int) == 0) = false := beq_eq_false_iff_ne.2 (by simp only [List.length_append, List.length_cons]; omega)
              have hne2 : ¬ ((X ++ [58, 118, 105, 115, 105, 116, 101, 100]).length = 0) := by simp only [List.length_append, List.length_cons]; omega
              have hv : textV (t, l1, l2, false, true) = ⟨(X ++ [58, 118, 105, 115, 105, 116, 101, 100]).toArray⟩ := by unfold textV; rw [TT.out, if_neg (by simp)]; simp
              have HV := Aside0.mk hv
              clear hv
              go_wp2_with (first | (go_at_call 56; with_reducible refine (bld_write (w.heap.size + 1) _ _ _ FX.out (by have := BD.out; (try simp only [List.length_append]); have : ByteArray.size ⟨#[58, 118, 105, 115, 105, 116, 101, 100]⟩ = 8 := rfl; have : (⟨#[58, 108, 105, 110, 107]⟩ : ByteArray).data.toList.length = 5 := rfl; have : ([58, 108, 105, 110, 107] : List UInt8).length = 5 := rfl; omega)).mono ?_; rintro e w4 ⟨rfl, hF, hB⟩; have F8 := Aside0.mk hF; have B8 := Aside0.mk (bld_after BX.out hB); clear hF hB) | (go_at_call 100; with_reducible refine (bld_len (w.heap.size + 1) _ _ F8.out).mono ?_; rintro e w5 ⟨rfl, rfl⟩) | (go_at_call 58; with_reducible refine (bld_string (w.heap.size + 1) _ _ F8.out).mono ?_; rintro e w6 ⟨rfl, hB6⟩; have B6 := Aside0.mk (bld_after B8.out hB6); clear hB6))
              go_ret
              exact ⟨by rw [HV.out]; first | rfl | simp, bld_below B1.out hsz B6.out⟩
            | false =>
              by_cases hX0 : X = []
              · have hv : textV (t, l1, l2, false, false) = ⟨#[42]⟩ := by unfold textV; rw [TT.out, hX0]; rfl
                have HV := Aside0.mk hv
                subst hX0
                clear hv
                go_wp2_with (first | (go_at_call 100; with_reducible refine (bld_len (w.heap.size + 1) _ _ FX.out).mono ?_; rintro e w5 ⟨rfl, rfl⟩) | (go_at_call 58; with_reducible refine (bld_string (w.heap.size + 1) _ _ FX.out).mono ?_; rintro e w6 ⟨rfl, hB6⟩; have B6 := Aside0.mk (bld_after BX.out hB6); clear hB6))
                go_ret
                exact ⟨by rw [HV.out]; rfl, bld_below B1.out hsz BX.out⟩
              · have hlen : ¬ (X.length = 0) := fun h => hX0 (List.length_eq_zero_iff.1 h)
                have hne : ((X.length : Int) == 0) = false := beq_eq_false_iff_ne.2 (by omega)
                have hv : textV (t, l1, l2, false, false) = ⟨X.toArray⟩ := by unfold textV; rw [TT.out, if_neg (by simpa using hX0)]; simp
                have HV := Aside0.mk hv
                clear hv hX0
                go_wp2_with (first | (go_at_call 100; with_reducible refine (bld_len (w.heap.size + 1) _ _ FX.out).mono ?_; rintro e w5 ⟨rfl, rfl⟩) | (go_at_call 58; with_reducible refine (bld_string (w.heap.size + 1) _ _ FX.out).mono ?_; rintro e w6 ⟨rfl, hB6⟩; have B6 := Aside0.mk (bld_after BX.out hB6); clear hB6))
                go_ret
                exact ⟨by rw [HV.out]; rfl, bld_below B1.out hsz B6.out⟩
end Go.Proofs.Tok
namespace Go.Proofs.Tok
open Go.RowKit Go.Lib Go.Proofs.YtolfpgccebdlpaaGreatDoorW.PrintWords Go.Proofs.YtolfpgccebdlpaaGreatDoorW.PrintLast Go.Proofs.YtolfpgccebdlpaaGreatDoorW.PrintMore
def sepL (bs : List Bool) (i : Nat) : List UInt8 := if i = 0 then [] else if bs.getD (i - 1) false = true then [32, 62, 32] else [32]
def printA (xs : List Smp) (bs : List Bool) : Nat → List UInt8
  | 0 => []
  | k + 1 => printA xs bs k ++ sepL bs k ++ (textV (xs.getD k zSmp)).data.toList
def printV (xs : List Smp) (bs : List Bool) : ByteArray := if mayS xs bs.length = true then ⟨(printA xs bs xs.length).toArray⟩ else ⟨#[]⟩
def txtX (x : Smp) : Prop := (x.2.1.length ≤ 1000000 ∧ x.2.2.1.length ≤ 1000000) ∧ x.1.size + (preW 35 x.2.1).length + (preW 46 x.2.2.1).length ≤ 1000000
theorem text_len {x : Smp} (h : txtX x) : (textV x).size ≤ 1000020 := by
  have h1 := Lib.size_eq x.1
  have h2 := h.2
  have hL : (textL x).length ≤ 1000020 := by
    unfold textL
    simp only [List.length_append]
    split <;> split <;> simp <;> omega
  unfold textV
  split
  · exact Nat.le_trans (by decide : (⟨#[42]⟩ : ByteArray).size ≤ 1) (by omega)
  · rw [Lib.size_eq]
    simpa using hL
theorem sep_len (bs : List Bool) (k : Nat) : (sepL bs k).length ≤ 3 := by
  unfold sepL
  split
  · simp
  · split <;> simp
theorem print_len {xs : List Smp} {bs : List Bool} (h : ∀ x ∈ xs, txtX x) : ∀ k, k ≤ xs.length → (printA xs bs k).length ≤ k * 1000100
  | 0, _ => by simp [printA]
  | k + 1, hk => by
    have ih := print_len (bs := bs) h k (by omega)
    have hg : xs.getD k zSmp = xs[k] := by rw [List.getD, List.getElem?_eq_getElem (show k < xs.length by omega)]; rfl
    have ht := text_len (h _ (List.getElem_mem (show k < xs.length by omega)))
    have hs : (sepL bs k).length ≤ 3 := by
      unfold sepL
      split
      · simp
      · split <;> simp
    rw [Lib.size_eq] at ht
    rw [printA, hg]
    simp only [List.length_append]
    omega
def BldF (b : Nat) (l : List UInt8) (w : World) : Prop := Lib.IsBuilderF 99 5 b b (Lib.byteCells l) w ∧ b < w.heap.size
theorem bldF_write (b : Nat) (l : List UInt8) (s : ByteArray) (w : World) (h : BldF b l w) (hl : l.length + s.size ≤ 140737488355328) :
    Calls Tryz.prog 56 #[.pointer (some ⟨b, 0, none⟩), .string s] w fun e w' => e = .returned (.tuple #[.int .i64 s.size, .nilIface]) ∧ BldF b (l ++ s.data.toList) w' ∧ Below b w w' ∧ Lib.OthersKept 5 (some b) w w' := by
  have hlen : (Lib.byteCells l).length = l.length := by simp [Lib.byteCells]
  refine (Tryz.Builder_WriteString_k b b (Lib.byteCells l) s w h.1 (by rw [hlen]; exact hl) (Nat.le_of_lt h.2)).mono ?_
  rintro e w' ⟨rfl, hb, hB, hO⟩
  refine ⟨rfl, ⟨.inr ?_, Nat.lt_of_lt_of_le h.2 hB.size⟩, hB, hO⟩
  have e1 : Lib.byteCells (l ++ s.data.toList) = Lib.byteCells l ++ Lib.strCells s := by simp [Lib.byteCells, Lib.strCells]
  rw [e1]
  exact hb
theorem bldF_string (b : Nat) (l : List UInt8) (w : World) (h : BldF b l w) :
    Calls Tryz.prog 58 #[.pointer (some ⟨b, 0, none⟩)] w fun e w' => e = .returned (.string ⟨l.toArray⟩) ∧ Below b w w' := (Tryz.Builder_String_any_k b b l w h.1 (Nat.le_of_lt h.2)).mono fun e w' ⟨h1, h2⟩ => ⟨h1, h2.2.1⟩
theorem bldF_fresh (w : World) : BldF w.heap.size [] (w.alloc (.cells #[.pointer none, .slice none 0 0] 99)) := ⟨Lib.IsBuilderF.of (Lib.fresh_isBuilder _ _ w), by rw [alloc_size]; omega⟩
/-- a block that is no row of bytes and not the builder's own lives on -/
theorem others_cell {b k : Nat} {cs : Array Value} {e : TypeId} {w w' : World} (hO : Lib.OthersKept 5 (some b) w w') (h : w.heap[k]? = some (.cells cs e (0, 0))) (hk : k ≠ b) (he : e ≠ 5) : w'.heap[k]? = some (.cells cs e (0, 0)) :=
  hO k _ h (fun q => hk (Option.some.inj q)) (fun c fz q => he (by injection q))
theorem cell_of_block {w : World} {k e : Nat} {cs : Array Value} (h : w.heap[k]? = some (.cells cs e (0, 0))) (j : Nat) : w.cell? ⟨k, j, none⟩ = cs[j]? := by
  simp only [World.cell?, h]
  rfl
theorem heap_lt {w : World} {k : Nat} {o : Obj} (h : w.heap[k]? = some o) : k < w.heap.size := by
  apply Nat.lt_of_not_le
  intro hh
  rw [Array.getElem?_eq_none hh] at h
  cases h
theorem bldAtF_keep {T e : TypeId} {b : Nat} {p : Value} {bs : List Value} {w w' : World} (h : Lib.BuilderAtF T e b b p bs w) (hb : Below w.heap.size w w') : Lib.BuilderAtF T e b b p bs w' := by
  obtain ⟨h1, v, h2, h3, h4⟩ := h
  refine ⟨h1, v, (hb.block b (heap_lt h2)).trans h2, ⟨h3.1, ?_⟩, h4⟩
  rcases h3.2 with hn | ⟨g, cap, cur, fz, e1, e2, e3, rest⟩
  · exact .inl hn
  · exact .inr ⟨g, cap, cur, fz, e1, e2, (hb.block g (heap_lt e3)).trans e3, rest⟩
theorem bldF_keep {b : Nat} {l : List UInt8} {w w' : World} (h : BldF b l w) (hb : Below w.heap.size w w') : BldF b l w' := by
  refine ⟨?_, Nat.lt_of_lt_of_le h.2 hb.size⟩
  rcases h.1 with h1 | h1
  · exact .inl (bldAtF_keep h1 hb)
  · exact .inr (bldAtF_keep h1 hb)
set_option maxHeartbeats 1000000 in
set_option maxRecDepth 400000 in
theorem Print_any (xs : List Smp) (bs : List Bool) (A A1 : Option Addr) (c c1 : Nat) (w : World) (C : Kd.C kSmp w A xs.length xs) (D : Kd.C Kd.bool w A1 bs.length bs) (hl : xs.length ≤ 1000) (hb : bs.length ≤ 1000) (hf : ∀ x ∈ xs, fitX x) (ht : ∀ x ∈ xs, txtX x) :
    Calls Tryz.prog 19 #[.agg #[.slice A xs.length c, .slice A1 bs.length c1]] w fun e w' => e = .returned (.string (printV xs bs)) ∧ Below w.heap.size w w' := by
  have hu := Tryz.underlying25
  have hu44 := Tryz.underlying80
  obtain ⟨w0, hw0⟩ : ∃ w0, w.alloc (.cells #[.slice A xs.length c, .slice A1 bs.length c1] 25) = w0 := ⟨_, rfl⟩
  have b0 : Below w.heap.size w w0 := by rw [← hw0]; exact below_alloc (Below.refl _ _) _
  have sz0 : w0.heap.size = w.heap.size + 1 := by rw [← hw0]; exact alloc_size _ _
  have k0 : ∀ j v, (#[.slice A xs.length c, .slice A1 bs.length c1] : Array Value)[j]? = some v → w0.cell? ⟨w.heap.size, j, none⟩ = some v := by
    intro j v hj
    rw [← hw0]
    exact alloc_cell _ _ _ _ _ hj
  have B0 := Aside0.mk b0
  have E0 := Aside0.mk hw0
  have K0 := Aside0.mk k0
  have HM := Aside0.mk (May_any xs A c A1 bs.length c1 w0 (Kd.C_below C b0) (by omega) (by omega) hf)
  have D0 := Aside0.mk C
  have D1 := Aside0.mk D
  have HT := Aside0.mk ht
  have HF := Aside0.mk hf
  clear k0 hw0 C D ht hf
  cases hm : mayS xs bs.length with
  | false =>
    have hv : printV xs bs = ⟨#[]⟩ := by unfold printV; rw [hm]; rfl
    have HV := Aside0.mk hv
    rw [hm] at HM
    clear hm hv b0
    go_enter Tryz.func19, Tryz.ntmps19
    go_upto_region 1 with (fail)
    rw [E0.out]
    have q0 : w0.cell? ⟨w.heap.size, 0, none⟩ = some (.slice A xs.length c) := K0.out 0 _ rfl
    have q1 : w0.cell? ⟨w.heap.size, 1, none⟩ = some (.slice A1 bs.length c1) := K0.out 1 _ rfl
    go_wp2_with (first | (go_at_call 17; with_reducible refine HM.out.mono ?_; rintro e w' ⟨rfl, hB⟩; have BM := Aside0.mk hB; clear hB))
    go_ret
    exact ⟨by rw [HV.out]; rfl, below_then B0.out B0.out.size BM.out⟩
  | true =>
    have hm2 : xs.length ≠ 0 ∧ xs.length ≤ 8 ∧ bs.length + 1 = xs.length := by
      unfold mayS at hm
      simp only [Bool.and_eq_true, Bool.not_eq_true', beq_eq_false_iff_ne, decide_eq_true_eq] at hm
      exact ⟨hm.1, hm.2.1, hm.2.2.1⟩
    have hv : printV xs bs = ⟨(printA xs bs xs.length).toArray⟩ := by unfold printV; rw [hm]; rfl
    have HV := Aside0.mk hv
    rw [hm] at HM
    clear hm hv b0
    obtain ⟨n0, n8, nb⟩ := hm2
    go_enter Tryz.func19, Tryz.ntmps19
    go_upto_region 1 with (fail)
    rw [E0.out]
    have q0 : w0.cell? ⟨w.heap.size, 0, none⟩ = some (.slice A xs.length c) := K0.out 0 _ rfl
    have q1 : w0.cell? ⟨w.heap.size, 1, none⟩ = some (.slice A1 bs.length c1) := K0.out 1 _ rfl
    go_wp2_with (first | (go_at_call 17; with_reducible refine HM.out.mono ?_; rintro e w1 ⟨rfl, hB⟩; have BM := Aside0.mk hB; have r0 : w1.cell? ⟨w.heap.size, 0, none⟩ = some (.slice A xs.length c) := (hB.cell (p := ⟨w.heap.size, 0, none⟩) (by show w.heap.size < _; omega)).trans q0; have r1 : w1.cell? ⟨w.heap.size, 1, none⟩ = some (.slice A1 bs.length c1) := (hB.cell (p := ⟨w.heap.size, 1, none⟩) (by show w.heap.size < _; omega)).trans q1; have hs1 := hB.size; rw [sz0] at hs1; have t0 := (World.cell?_alloc_lt w1 (Obj.cells #[.pointer none, .slice none 0 0] 99) ⟨w.heap.size, 0, none⟩ (by show w.heap.size < _; omega)).trans r0; clear hB))
    go_loopw [4, 5, 12, 13, 14, 15, 16, 17, 18, 19, 20, 21, 22, 23, 24, 25, 26, 27, 28, 29, 30, 31, 32] (fun _ _ i _ _ _ _ _ _ _ _ _ _ _ _ _ _ _ _ _ _ _ _ wr => ∃ k : Nat, k ≤ xs.length ∧ i = .int .i64 k ∧ Aside0 (BldF w1.heap.size (printA xs bs k) wr) ∧ Aside0 (Below w1.heap.size w1 wr)) (fun _ _ i _ _ _ _ _ _ _ _ _ _ _ _ _ _ _ _ _ _ _ _ _ => xs.length - (RowKit.intOf i).toNat)
    case atStart => exact ⟨0, Nat.zero_le _, rfl, ⟨bldF_fresh w1⟩, ⟨below_alloc (Below.refl _ _) _⟩⟩
    case round =>
      clear t0
      obtain ⟨k, hk, rfl, FR, BR⟩ := hrel
      have BW := Aside0.mk (below_then (below_then B0.out B0.out.size BM.out) (by have := B0.out.size; have := BM.out.size; omega) BR.out)
      by_cases hlt : k < xs.length
      · have g1 : decide ((k : Int) < (xs.length : Int)) = true := decide_eq_true (by omega)
        obtain ⟨ad, U1, u1, U2, u2, ea, h0, h1, h2, h3, h4, v1, F1, v2, F2⟩ := at_Smp D0.out k hlt hlt
        subst ea
        have hB := fun (p : Addr) (v : Value) (h : w.cell? p = some v) => (BW.out.cell (World.block_lt_of_cell? _ _ h)).trans h
        have x0 := hB _ _ h0
        have x1 := hB _ _ h1
        have x2 := hB _ _ h2
        have x3 := hB _ _ h3
        have x4 := hB _ _ h4
        have HX := Aside0.mk (fun W (hW : Below w.heap.size w W) => text_any xs[k] U1 U2 u1 u2 W (Kd.C_below F1 hW) (Kd.C_below F2 hW) (HT.out _ (List.getElem_mem hlt)).1 (HT.out _ (List.getElem_mem hlt)).2)
        have TL := Aside0.mk (text_len (HT.out _ (List.getElem_mem hlt)))
        have PL := Aside0.mk (print_len (bs := bs) HT.out k hk)
        have SL : Aside0 ((sepL bs k).length ≤ 3) := ⟨sep_len bs k⟩
        have PN : Aside0 (printA xs bs (k + 1) = printA xs bs k ++ sepL bs k ++ (textV xs[k]).data.toList) := ⟨by rw [printA, List.getD, List.getElem?_eq_getElem hlt]; rfl⟩
        clear h0 h1 h2 h3 h4 v1 v2 F1 F2 hB
        generalize xs[k] = x at x0 x1 x2 x3 x4 HX TL PN
        have FX := Aside0.mk (bldF_keep FR.out (below_alloc (Below.refl wr.heap.size wr) (Obj.cells #[.string x.1, .slice U1 x.2.1.length u1, .slice U2 x.2.2.1.length u2, .bool x.2.2.2.1, .bool x.2.2.2.2] 80)))
        have BWX := Aside0.mk (below_alloc BW.out (Obj.cells #[.string x.1, .slice U1 x.2.1.length u1, .slice U2 x.2.2.1.length u2, .bool x.2.2.2.1, .bool x.2.2.2.2] 80))
        have BX := Aside0.mk (below_alloc BR.out (Obj.cells #[.string x.1, .slice U1 x.2.1.length u1, .slice U2 x.2.2.1.length u2, .bool x.2.2.2.1, .bool x.2.2.2.2] 80))
        have szx := BR.out.size
        have hlt1 : w1.heap.size < wr.heap.size := FR.out.2
        by_cases hk0 : k = 0
        · have e0 : ((k : Int) == 0) = true := beq_iff_eq.2 (by omega)
          have e1 : ((k : Int) = 0) = True := eq_true (by omega)
          have HK0 := Aside0.mk hk0
          clear hk0
          go_wp2_with (first | (go_at_call 57; with_reducible refine (HX.out _ (BWX.out)).mono ?_; rintro e w4 ⟨rfl, hB⟩; have B4 := Aside0.mk hB; clear hB) | (go_at_call 56; with_reducible refine (bldF_write w1.heap.size _ _ _ (bldF_keep FX.out B4.out) (by have := TL.out; have := PL.out; have := SL.out; (try simp only [List.length_append]); omega)).mono ?_; rintro e w5 ⟨rfl, hF, hB, hO⟩; have F5 := Aside0.mk hF; have B5 := Aside0.mk hB; clear hF hB hO))
          refine ⟨⟨k + 1, by omega, by go_num, ⟨?_⟩, ⟨(below_then BX.out (by rw [alloc_size]; omega) B4.out).trans B5.out⟩⟩, by simp [RowKit.intOf]; omega⟩
          have := F5.out
          rw [PN.out]
          have e : sepL bs k = [] := by unfold sepL; rw [if_pos HK0.out]
          rw [e, List.append_nil]
          exact this
        · have e0 : ((k : Int) == 0) = false := beq_eq_false_iff_ne.2 (by omega)
          have e1 : ((k : Int) = 0) = False := eq_false (by omega)
          have hk1 : k - 1 < bs.length := by omega
          obtain ⟨ae, ee, hc⟩ := bool_cell D1.out (k - 1) hk1 hk1
          subst ee
          have z1 := (World.cell?_alloc_lt wr (Obj.cells #[.string x.1, .slice U1 x.2.1.length u1, .slice U2 x.2.2.1.length u2, .bool x.2.2.2.1, .bool x.2.2.2.2] 80) _ (World.block_lt_of_cell? _ _ ((BW.out.cell (World.block_lt_of_cell? _ _ hc)).trans hc))).trans ((BW.out.cell (World.block_lt_of_cell? _ _ hc)).trans hc)
          have s1r : wr.cell? ⟨w.heap.size, 1, none⟩ = some (.slice (some ae) bs.length c1) := (BR.out.cell (p := ⟨w.heap.size, 1, none⟩) (by show w.heap.size < _; omega)).trans r1
          have s1 := (World.cell?_alloc_lt wr (Obj.cells #[.string x.1, .slice U1 x.2.1.length u1, .slice U2 x.2.2.1.length u2, .bool x.2.2.2.1, .bool x.2.2.2.2] 80) _ (World.block_lt_of_cell? _ _ s1r)).trans s1r
          have hw : wrap64 ((k : Int) - 1) = ((k - 1 : Nat) : Int) := by unfold wrap64; omega
          have hw2 : IntKind.i64.wrap ((k : Int) - 1) = ((k - 1 : Nat) : Int) := by rw [i64_w]; exact hw
          have hw3 : ((k : Int) - 1) = ((k - 1 : Nat) : Int) := by omega
          have p1 : ((k - 1 : Nat) : Int) < (bs.length : Int) := by omega
          have B01 := Aside0.mk (below_then B0.out B0.out.size BM.out)
          have hsz01 : w.heap.size ≤ w1.heap.size := by omega
          have SB : Aside0 (sepL bs k = if bs[k - 1] = true then [32, 62, 32] else [32]) := ⟨by unfold sepL; rw [if_neg hk0, List.getD, List.getElem?_eq_getElem hk1]; rfl⟩
          clear hc s1r hk0
          generalize bs[k - 1] = bq at z1 SB
          cases bq with
          | true =>
            go_wp2_with (first | (go_at_call 56; with_reducible refine (bldF_write w1.heap.size _ _ _ FX.out (by have := PL.out; have : ByteArray.size ⟨#[32, 62, 32]⟩ = 3 := rfl; have : ByteArray.size ⟨#[32]⟩ = 1 := rfl; omega)).mono ?_; rintro e w3 ⟨rfl, hF, hB, hO⟩; have F3 := Aside0.mk hF; have B3 := Aside0.mk (BX.out.trans hB); have hy := others_cell hO (heap_alloc_new wr _) (Nat.ne_of_gt hlt1) (by decide); have BW3 := Aside0.mk (below_then B01.out hsz01 B3.out); have y0 : w3.cell? ⟨wr.heap.size, 0, none⟩ = some (.string x.1) := (cell_of_block hy 0).trans rfl; have y1 : w3.cell? ⟨wr.heap.size, 1, none⟩ = some (.slice U1 x.2.1.length u1) := (cell_of_block hy 1).trans rfl; have y2 : w3.cell? ⟨wr.heap.size, 2, none⟩ = some (.slice U2 x.2.2.1.length u2) := (cell_of_block hy 2).trans rfl; have y3 : w3.cell? ⟨wr.heap.size, 3, none⟩ = some (.bool x.2.2.2.1) := (cell_of_block hy 3).trans rfl; have y4 : w3.cell? ⟨wr.heap.size, 4, none⟩ = some (.bool x.2.2.2.2) := (cell_of_block hy 4).trans rfl; clear hF hB hO hy FX) | (go_at_call 57; with_reducible refine (HX.out _ (BW3.out)).mono ?_; rintro e w4 ⟨rfl, hB⟩; have B4 := Aside0.mk hB; clear hB) | (go_at_call 56; with_reducible refine (bldF_write w1.heap.size _ _ _ (bldF_keep F3.out B4.out) (by have := TL.out; have := PL.out; (try simp only [List.length_append]); have : (⟨#[32, 62, 32]⟩ : ByteArray).data.toList.length = 3 := rfl; have : (⟨#[32]⟩ : ByteArray).data.toList.length = 1 := rfl; have : ([32, 62, 32] : List UInt8).length = 3 := rfl; have : ([32] : List UInt8).length = 1 := rfl; omega)).mono ?_; rintro e w5 ⟨rfl, hF, hB, hO⟩; have F5 := Aside0.mk hF; have B5 := Aside0.mk hB; clear hF hB hO))
            refine ⟨⟨k + 1, by omega, by go_num, ⟨?_⟩, ⟨(below_then B3.out B3.out.size B4.out).trans B5.out⟩⟩, by simp [RowKit.intOf]; omega⟩
            have := F5.out
            rw [PN.out, SB.out]
            simpa [List.append_assoc] using this
          | false =>
            go_wp2_with (first | (go_at_call 56; with_reducible refine (bldF_write w1.heap.size _ _ _ FX.out (by have := PL.out; have : ByteArray.size ⟨#[32, 62, 32]⟩ = 3 := rfl; have : ByteArray.size ⟨#[32]⟩ = 1 := rfl; omega)).mono ?_; rintro e w3 ⟨rfl, hF, hB, hO⟩; have F3 := Aside0.mk hF; have B3 := Aside0.mk (BX.out.trans hB); have hy := others_cell hO (heap_alloc_new wr _) (Nat.ne_of_gt hlt1) (by decide); have BW3 := Aside0.mk (below_then B01.out hsz01 B3.out); have y0 : w3.cell? ⟨wr.heap.size, 0, none⟩ = some (.string x.1) := (cell_of_block hy 0).trans rfl; have y1 : w3.cell? ⟨wr.heap.size, 1, none⟩ = some (.slice U1 x.2.1.length u1) := (cell_of_block hy 1).trans rfl; have y2 : w3.cell? ⟨wr.heap.size, 2, none⟩ = some (.slice U2 x.2.2.1.length u2) := (cell_of_block hy 2).trans rfl; have y3 : w3.cell? ⟨wr.heap.size, 3, none⟩ = some (.bool x.2.2.2.1) := (cell_of_block hy 3).trans rfl; have y4 : w3.cell? ⟨wr.heap.size, 4, none⟩ = some (.bool x.2.2.2.2) := (cell_of_block hy 4).trans rfl; clear hF hB hO hy FX) | (go_at_call 57; with_reducible refine (HX.out _ (BW3.out)).mono ?_; rintro e w4 ⟨rfl, hB⟩; have B4 := Aside0.mk hB; clear hB) | (go_at_call 56; with_reducible refine (bldF_write w1.heap.size _ _ _ (bldF_keep F3.out B4.out) (by have := TL.out; have := PL.out; (try simp only [List.length_append]); have : (⟨#[32, 62, 32]⟩ : ByteArray).data.toList.length = 3 := rfl; have : (⟨#[32]⟩ : ByteArray).data.toList.length = 1 := rfl; have : ([32, 62, 32] : List UInt8).length = 3 := rfl; have : ([32] : List UInt8).length = 1 := rfl; omega)).mono ?_; rintro e w5 ⟨rfl, hF, hB, hO⟩; have F5 := Aside0.mk hF; have B5 := Aside0.mk hB; clear hF hB hO))
            refine ⟨⟨k + 1, by omega, by go_num, ⟨?_⟩, ⟨(below_then B3.out B3.out.size B4.out).trans B5.out⟩⟩, by simp [RowKit.intOf]; omega⟩
            have := F5.out
            rw [PN.out, SB.out]
            simpa [List.append_assoc] using this
      · obtain rfl : k = xs.length := by omega
        have g1 : decide ((xs.length : Int) < (xs.length : Int)) = false := decide_eq_false (by omega)
        go_wp2_with (first | (go_at_call 58; with_reducible refine (bldF_string w1.heap.size _ _ FR.out).mono ?_; rintro e w6 ⟨rfl, hB6⟩; have B6 := Aside0.mk (BR.out.trans hB6); clear hB6))
        go_ret
        exact ⟨by rw [HV.out]; rfl, below_then (below_then B0.out B0.out.size BM.out) (by have := B0.out.size; have := BM.out.size; omega) B6.out⟩
end Go.Proofs.Tok
set_option linter.unusedVariables false
set_option linter.unusedSimpArgs false
namespace Go.Proofs.Tok
open Go.RowKit Go.Lib Go.Proofs.YtolfpgccebdlpaaGreatDoorW.PrintWords Go.Proofs.YtolfpgccebdlpaaGreatDoorW.PrintLast Go.Proofs.YtolfpgccebdlpaaGreatDoorW.PrintMore
theorem C_iso {α β : Type} {d : Kd α} {f : β → α} {w : World} {A : Option Addr} {n : Nat} {xs : List β} (h : Kd.C (Kd.iso d f) w A n xs) : Kd.C d w A n (xs.map f) := by
  obtain ⟨h1, h2, h3⟩ := h
  refine ⟨by rw [List.length_map]; exact h1, h2, fun hn => ?_⟩
  obtain ⟨ad, e, hc⟩ := h3 hn
  refine ⟨ad, e, fun j p hj => ?_⟩
  rw [List.getElem?_map] at hj
  obtain ⟨x, hx, rfl⟩ := Option.map_eq_some_iff.1 hj
  exact hc j x hx
instance (x : Smp) : Decidable (fitX x) := by unfold fitX; infer_instance
instance (x : Smp) : Decidable (txtX x) := by unfold txtX; infer_instance
instance (x : Smp) : Decidable (lenX x) := by unfold lenX; infer_instance
theorem repl_any (s old new : ByteArray) (w : World) (hm : Go.Proofs.Scn.Mx w) (hs : s.size < 4294967281) (h1 : 1 ≤ old.size) (hlen : s.size + Lib.countB s old * new.size ≤ 140737488355328) :
    Calls Tryz.prog 40 #[.string s, .string old, .string new] w fun e w' => e = .returned (.string ⟨(Lib.replaceAll s.data.toList old.data.toList new.data.toList).toArray⟩) ∧ Below w.heap.size w w' := by
  obtain ⟨m, hm⟩ := hm
  exact Tryz.strings_ReplaceAll s old new m w hs hm h1 hlen
end Go.Proofs.Tok
set_option linter.unusedVariables false
set_option linter.unusedSimpArgs false
namespace Go.Proofs.Sht
open Go.RowKit Go.Lib
def Env (w : World) : Prop := Go.Proofs.Scn.Mx w ∧ Go.Proofs.Val.Tbs w
theorem Env.below {w w' : World} (h : Env w) (hb : Below w.heap.size w w') : Env w' := ⟨h.1.below hb, h.2.below hb⟩
theorem Env.draws {w : World} (h : Env w) (n : Nat) : Env (w.drewN n) := ⟨h.1.draws n, h.2.draws n⟩
end Go.Proofs.Sht
set_option linter.unusedVariables false
set_option linter.unusedSimpArgs false
namespace Go.Proofs.Sht
open Go.RowKit Go.Lib Go.Proofs.YtolfpgccebdlpaaGreatDoorW.PrintWords Go.Proofs.YtolfpgccebdlpaaGreatDoorW.PrintLast Go.Proofs.YtolfpgccebdlpaaGreatDoorW.PrintMore Go.Proofs.Tok Go.Proofs.Scn
theorem same_of {s : ByteArray} {l : List UInt8} (h : s.toList = l) : s = ⟨l.toArray⟩ := ba_ext (by rw [← Lib.toList_data, h])
set_option maxHeartbeats 2000000 in
set_option maxRecDepth 400000 in
theorem propsC (s : ByteArray) (w : World) :
  Calls Tryz.prog 105 #[.string s] w fun e w' => e = .returned (.tuple #[.int .i64 (propsV s).1, .int .i64 (propsV s).2]) ∧ Below w.heap.size w w' := by
 have hp := fun W => Val.propC s W
 have HP : Aside0 (propsV s = if s.toList = [109, 97, 114, 103, 105, 110] then (4, 4) else if s.toList = [112, 97, 100, 100, 105, 110, 103] then (8, 4) else if s.toList = [98, 111, 114, 100, 101, 114, 45, 119, 105, 100, 116, 104] then (12, 4) else (Val.propV s, 1)) := ⟨rfl⟩
 generalize Val.propV s = q at hp HP
 by_cases h1 : s.toList = [109, 97, 114, 103, 105, 110]
 ·obtain rfl := same_of h1
  rw [HP.out, if_pos h1]
  go_enter Tryz.func105, Tryz.ntmps105
  go_wp2
  go_returns
  exact ⟨rfl, Below.refl _ _⟩
 rw [if_neg h1] at HP
 have e1 : (s.toList == [109, 97, 114, 103, 105, 110]) = false := beq_eq_false_iff_ne.2 h1
 by_cases h2 : s.toList = [112, 97, 100, 100, 105, 110, 103]
 ·obtain rfl := same_of h2
  rw [HP.out, if_pos h2]
  go_enter Tryz.func105, Tryz.ntmps105
  go_wp2
  go_returns
  exact ⟨rfl, Below.refl _ _⟩
 rw [if_neg h2] at HP
 have e2 : (s.toList == [112, 97, 100, 100, 105, 110, 103]) = false := beq_eq_false_iff_ne.2 h2
 by_cases h3 : s.toList = [98, 111, 114, 100, 101, 114, 45, 119, 105, 100, 116, 104]
 ·obtain rfl := same_of h3
  rw [HP.out, if_pos h3]
  go_enter Tryz.func105, Tryz.ntmps105
  go_wp2
  go_returns
  exact ⟨rfl, Below.refl _ _⟩
 rw [if_neg h3] at HP
 have e3 : (s.toList == [98, 111, 114, 100, 101, 114, 45, 119, 105, 100, 116, 104]) = false := beq_eq_false_iff_ne.2 h3
 rw [HP.out]
 clear HP h1 h2 h3
 go_enter Tryz.func105, Tryz.ntmps105
 go_wp2_with (first | (go_at_call 143; refine (hp _).mono ?_; rintro e w' ⟨rfl, hB⟩))
 go_returns
 exact ⟨rfl, hB⟩
def shV (n : Nat) : Int × Int × Int × Int := if n = 2 then (0, 1, 0, 1) else if n = 3 then (0, 1, 2, 1) else if n = 4 then (0, 1, 2, 3) else (0, 0, 0, 0)
set_option maxHeartbeats 2000000 in
set_option maxRecDepth 400000 in
theorem sharedC (n : Nat) (w : World) :
  Calls Tryz.prog 107 #[.int .i64 n] w fun e w' => e = .returned (.agg #[.int .i64 (shV n).1, .int .i64 (shV n).2.1, .int .i64 (shV n).2.2.1, .int .i64 (shV n).2.2.2]) ∧ Below w.heap.size w w' := by
 have hu := Tryz.underlying73
 unfold shV
 by_cases h2 : n = 2
 ·subst h2
  go_enter Tryz.func107, Tryz.ntmps107
  go_wp2
  go_returns
  exact ⟨rfl, by repeat (first | exact Below.refl _ _ | apply below_alloc)⟩
 have e2 : ((n : Int) == 2) = false := beq_eq_false_iff_ne.2 (by omega)
 rw [if_neg h2]
 by_cases h3 : n = 3
 ·subst h3
  go_enter Tryz.func107, Tryz.ntmps107
  go_wp2
  go_returns
  exact ⟨rfl, by repeat (first | exact Below.refl _ _ | apply below_alloc)⟩
 have e3 : ((n : Int) == 3) = false := beq_eq_false_iff_ne.2 (by omega)
 rw [if_neg h3]
 by_cases h4 : n = 4
 ·subst h4
  go_enter Tryz.func107, Tryz.ntmps107
  go_wp2
  go_returns
  exact ⟨rfl, by repeat (first | exact Below.refl _ _ | apply below_alloc)⟩
 have e4 : ((n : Int) == 4) = false := beq_eq_false_iff_ne.2 (by omega)
 rw [if_neg h4]
 go_enter Tryz.func107, Tryz.ntmps107
 go_wp2
 go_returns
 exact ⟨rfl, by repeat (first | exact Below.refl _ _ | apply below_alloc)⟩
theorem cut_sz (s : List UInt8) : (Lib.cut s [58]).1.length ≤ s.length ∧ (Lib.cut s [58]).2.1.length ≤ s.length := by
 rcases cut_spec 58 s with ⟨h, _⟩ | ⟨p, t, h, _, h2⟩
 ·rw [h]; simp
 ·rw [h2, h]; simp; omega
theorem lt_sz (s : ByteArray) : (lowV (trimV s)).size ≤ s.size := by
 rw [Lib.size_eq, Lib.size_eq, lowV_data, List.length_map, trimV_data]
 exact trim_len _
theorem suf_sz (l m : List UInt8) : (Lib.trimSuffix l m).length ≤ l.length := by
 unfold Lib.trimSuffix
 split
 ·rw [List.length_take]; omega
 ·exact Nat.le_refl _
theorem many_of (n : ByteArray) : (propsV n).2 = 4 ∨ (propsV n).2 = 1 := by
 unfold propsV
 repeat (first | (split; left; rfl) | right; rfl)
theorem sh_lt (n : Nat) (h0 : 0 < n) (h4 : n ≤ 4) : shV n = ((((sharedV n).getD 0 0 : Nat) : Int), (((sharedV n).getD 1 0 : Nat) : Int), (((sharedV n).getD 2 0 : Nat) : Int), (((sharedV n).getD 3 0 : Nat) : Int)) ∧ ∀ i, (sharedV n).getD i 0 < n := by
 have hn : n = 1 ∨ n = 2 ∨ n = 3 ∨ n = 4 := by omega
 rcases hn with rfl | rfl | rfl | rfl
 all_goals
  refine ⟨rfl, fun i => ?_⟩
  rcases i with _ | _ | _ | _ | i <;> simp [sharedV]
theorem below_seq {w w1 w2 : World} (h1 : Below w.heap.size w w1) (h2 : Below w1.heap.size w1 w2) : Below w.heap.size w w2 := below_then h1 h1.size h2
theorem strs_at {e base : Nat} {ok : Nat → Prop} {w w1 : World} {v : Value} {ts : List ByteArray} (h : Kd.R Kd.string e w base ok v ts) (hm : ∀ k, v.ownBlock = some k → w1.heap[k]? = w.heap[k]?) : ∃ A c, v = .slice A ts.length c ∧ ts.length ≤ c ∧ Kd.C Kd.string w1 A ts.length ts := by
 obtain ⟨h0, inner, ho, hr⟩ := h
 have h2 : Kd.R Kd.string e w base (fun k => v.ownBlock = some k) v ts := ⟨fun k hk => hk, inner, ho, hr⟩
 exact Kd.R_reads (Kd.R_move h2 hm)
theorem strs_type {e base : Nat} {ok : Nat → Prop} {w : World} {v : Value} {ts : List ByteArray} (h : Kd.R Kd.string e w base ok v ts) (k : Nat) (hk : v.ownBlock = some k) : k < w.heap.size ∧ ∃ cells, w.heap[k]? = some (.cells cells e (0, 0)) := by
 obtain ⟨h0, inner, ho, hr⟩ := h
 exact ⟨own_lt ho k hk, own_typed ho k hk⟩
theorem props_bd (n : ByteArray) : 0 ≤ (propsV n).1 ∧ (propsV n).1 < 30 := by
 have := Val.propI_bd n
 unfold propsV
 repeat (first | (split; exact ⟨by decide, by decide⟩) | (unfold Val.propV; dsimp only; omega))
theorem wg_sz : ∀ (l cur : List UInt8), ∀ x ∈ wg cur l, x.length ≤ cur.length + l.length
 | [], cur, x, h => by
  rw [wg] at h
  split at h
  ·cases h
  ·rw [List.mem_singleton] at h
   subst h
   simp
 | c :: t, cur, x, h => by
  rw [wg] at h
  have h1 := wg_sz t [] x
  have h2 := wg_sz t (cur ++ [c]) x
  rw [List.length_append] at h2
  simp only [List.length_cons, List.length_nil] at h1 h2 ⊢
  split at h
  ·split at h
   ·have := h1 h; omega
   ·rcases List.mem_cons.1 h with rfl | h
    ·omega
    ·have := h1 h; omega
  ·have := h2 h; omega
theorem words_sz {s : ByteArray} : ∀ x ∈ wordsV s, x.size ≤ s.size := by
 intro x hx
 rw [wordsV_eq, List.mem_map] at hx
 obtain ⟨y, hy, rfl⟩ := hx
 have := wg_sz _ _ y hy
 rw [Lib.size_eq, ba_data, Lib.size_eq]
 simpa using this
theorem texts_sz {M : Int} {f : List UInt8} : ∀ x ∈ textsV M ⟨f.toArray⟩, x.size ≤ f.length := by
 intro x hx
 unfold textsV at hx
 split at hx
 ·have := words_sz x hx
  rw [Lib.size_eq ⟨f.toArray⟩] at this
  simpa using this
 ·rw [List.mem_singleton] at hx
  subst hx
  rw [Lib.size_eq]
  simp
theorem infoD : (Tryz.prog.info? 111).map (fun i => (i.zero, i.size, i.bytes)) = some (some (.agg #[(.int .i64 0), (.int .i64 0), (.int .i64 0), (.bool false)]), 4, 32) := by kernel_rfl
theorem valsV_no {p : Int} {ts : List ByteArray} {im : Bool} {wh : List Nat} {d i : Nat} {acc : List Dc} (h : (Val.readV (p + i) (ts.getD (wh.getD i 0) ByteArray.empty)).2 = false) : valsV p ts im wh (d + 1) i acc = [] := by
 rw [valsV]
 rw [h]
 rfl
theorem valsV_yes {p : Int} {ts : List ByteArray} {im : Bool} {wh : List Nat} {d i : Nat} {acc : List Dc} (h : (Val.readV (p + i) (ts.getD (wh.getD i 0) ByteArray.empty)).2 = true) : valsV p ts im wh (d + 1) i acc = valsV p ts im wh d (i + 1) (acc ++ [(p + i, (Val.readV (p + i) (ts.getD (wh.getD i 0) ByteArray.empty)).1.1, (Val.readV (p + i) (ts.getD (wh.getD i 0) ByteArray.empty)).1.2, im)]) := by
 rw [valsV]
 rw [h]
 rfl
set_option maxHeartbeats 4000000 in
set_option maxRecDepth 400000 in
theorem declC (s : ByteArray) (w : World) (hs : s.size < 4294967281) :
  Calls Tryz.prog 68 #[.string s] w fun e w' => ∃ v, e = .returned v ∧ Kd.R kDc 111 w' w.heap.size (fun _ => True) v (declV s) ∧ Below w.heap.size w w' := by
 have hu1 := Tryz.underlying111
 have hu2 := Tryz.underlying109
 have hu3 := Tryz.underlying73
 have HV : Aside0 (declV s = declV s) := ⟨rfl⟩
 have HV2 : Aside0 (declV s = if (Lib.cut s.data.toList [58]).2.2 = true ∧ (propsV (lowV (trimV (ba (Lib.cut s.data.toList [58]).1)))).1 ≠ 0 then (if 0 < (textsV (propsV (lowV (trimV (ba (Lib.cut s.data.toList [58]).1)))).2 (ba (Lib.trimSuffix (lowV (trimV (ba (Lib.cut s.data.toList [58]).2.1))).data.toList strongW))).length ∧ (textsV (propsV (lowV (trimV (ba (Lib.cut s.data.toList [58]).1)))).2 (ba (Lib.trimSuffix (lowV (trimV (ba (Lib.cut s.data.toList [58]).2.1))).data.toList strongW))).length ≤ 4 then valsV (propsV (lowV (trimV (ba (Lib.cut s.data.toList [58]).1)))).1 (textsV (propsV (lowV (trimV (ba (Lib.cut s.data.toList [58]).1)))).2 (ba (Lib.trimSuffix (lowV (trimV (ba (Lib.cut s.data.toList [58]).2.1))).data.toList strongW))) (Lib.hasSuffix (lowV (trimV (ba (Lib.cut s.data.toList [58]).2.1))).data.toList strongW) (sharedV (textsV (propsV (lowV (trimV (ba (Lib.cut s.data.toList [58]).1)))).2 (ba (Lib.trimSuffix (lowV (trimV (ba (Lib.cut s.data.toList [58]).2.1))).data.toList strongW))).length) (propsV (lowV (trimV (ba (Lib.cut s.data.toList [58]).1)))).2.toNat 0 [] else []) else []) := ⟨rfl⟩
 clear HV
 have hz := cut_sz s.data.toList
 have hcut := fun W => Go.Proofs.ShX.xCut_one Tryz.lays145 s 58 W hs
 have es := Lib.size_eq s
 obtain ⟨c1, hc1⟩ : ∃ c, (Lib.cut s.data.toList [58]).1 = c := ⟨_, rfl⟩
 obtain ⟨c2, hc2⟩ : ∃ c, (Lib.cut s.data.toList [58]).2.1 = c := ⟨_, rfl⟩
 obtain ⟨is, his⟩ : ∃ c, (Lib.cut s.data.toList [58]).2.2 = c := ⟨_, rfl⟩
 rw [hc1, hc2, his] at HV2 hcut
 rw [hc1, hc2] at hz
 obtain ⟨rv, hrv⟩ : ∃ rv, declV s = rv := ⟨_, rfl⟩
 rw [hrv] at HV2 ⊢
 clear hc1 hc2 his hrv
 have l1 : (⟨c1.toArray⟩ : ByteArray).size < 4294967281 := by rw [Lib.size_eq]; simp; omega
 have l2 : (⟨c2.toArray⟩ : ByteArray).size < 4294967281 := by rw [Lib.size_eq]; simp; omega
 have ht1 := fun W => Scn.trim_any (⟨c1.toArray⟩ : ByteArray) W l1
 have ht2 := fun W => Scn.trim_any (⟨c2.toArray⟩ : ByteArray) W l2
 have z1 := lt_sz (⟨c1.toArray⟩ : ByteArray)
 have z2 := lt_sz (⟨c2.toArray⟩ : ByteArray)
 rw [show ba c1 = ⟨c1.toArray⟩ from rfl, show ba c2 = ⟨c2.toArray⟩ from rfl] at HV2
 have y1 : (trimV ⟨c1.toArray⟩).size < 4294967281 := by rw [Lib.size_eq, trimV_data]; have := trim_len c1; simp; omega
 have y2 : (trimV ⟨c2.toArray⟩).size < 4294967281 := by rw [Lib.size_eq, trimV_data]; have := trim_len c2; simp; omega
 have hl1 := fun W => Scn.lower_any (trimV ⟨c1.toArray⟩) W y1
 have hl2 := fun W => Scn.lower_any (trimV ⟨c2.toArray⟩) W y2
 clear y1 y2 hz es
 have z3 : (lowV (trimV ⟨c2.toArray⟩)).size < 4294967281 := by omega
 clear z1 z2 l1 l2
 generalize lowV (trimV ⟨c1.toArray⟩) = m1 at HV2 hl1
 generalize trimV ⟨c1.toArray⟩ = u1 at ht1 hl1
 generalize lowV (trimV ⟨c2.toArray⟩) = m2 at HV2 hl2 z3
 generalize trimV ⟨c2.toArray⟩ = u2 at ht2 hl2
 have hp := fun W => propsC m1 W
 have hM := many_of m1
 have hPb := props_bd m1
 obtain ⟨P, hP⟩ : ∃ P, (propsV m1).1 = P := ⟨_, rfl⟩
 obtain ⟨M, hMM⟩ : ∃ M, (propsV m1).2 = M := ⟨_, rfl⟩
 rw [hP, hMM] at HV2 hp
 rw [hMM] at hM
 rw [hP] at hPb
 clear hP hMM
 have hsu := fun W => Tryz.strings_CutSuffix m2 ⟨#[33, 105, 109, 112, 111, 114, 116, 97, 110, 116]⟩ W (by omega)
 rw [show (⟨#[33, 105, 109, 112, 111, 114, 116, 97, 110, 116]⟩ : ByteArray).data.toList = strongW from rfl] at hsu
 have z4 := suf_sz m2.data.toList strongW
 rw [← Lib.size_eq] at z4
 generalize Lib.trimSuffix m2.data.toList strongW = f at HV2 hsu z4
 generalize Lib.hasSuffix m2.data.toList strongW = im at HV2 hsu
 have hts := fun (M : Int) => texts_sz (M := M) (f := f)
 have z6 : f.length < 4294967281 := by rw [Lib.size_eq] at z4; simp at z4; omega
 have z5 : (⟨f.toArray⟩ : ByteArray).size < 4294967281 := by rw [Lib.size_eq]; simp; omega
 clear z4
 have hwd := fun W => words_any (⟨f.toArray⟩ : ByteArray) W z5
 rw [show ba f = ⟨f.toArray⟩ from rfl] at HV2
 have CUT := Aside0.mk hcut
 have TR1 := Aside0.mk ht1
 have TR2 := Aside0.mk ht2
 have LO1 := Aside0.mk hl1
 have LO2 := Aside0.mk hl2
 have PR := Aside0.mk hp
 have SU := Aside0.mk hsu
 have WD := Aside0.mk hwd
 have Z5 := Aside0.mk z5
 have HTS := Aside0.mk hts
 have Z6 := Aside0.mk z6
 clear hcut ht1 ht2 hl1 hl2 hp hsu hwd z5 z3 hs hts z6
 cases is with
 | false =>
  as_aux_lemma =>
  rw [HV2.out, if_neg (fun h => by cases h.1)]
  go_enter Tryz.func68, Tryz.ntmps68
  go_wp2_with (first | (go_at_call 102; refine (CUT.out _).mono ?_; rintro e w1 ⟨rfl, nd, rfl⟩) | (go_at_call 91; with_reducible refine (TR1.out _).mono ?_; rintro e w2 ⟨rfl, hB⟩; have B2 := Aside0.mk (below_seq (pw_below_drewN (Below.refl w.heap.size w) nd) hB); clear hB) | (go_at_call 41; with_reducible refine (LO1.out _).mono ?_; rintro e w3 ⟨rfl, hB⟩; have B3 := Aside0.mk (below_seq B2.out hB); clear hB B2) | (go_at_call 105; refine (PR.out _).mono ?_; rintro e w4 ⟨rfl, hB⟩; have B4 := Aside0.mk (below_seq B3.out hB); clear hB B3))
  go_ret
  exact ⟨_, rfl, Kd.R_nil _ _ _ _ _, B4.out⟩
 | true =>
  by_cases hP0 : P = 0
  ·subst hP0
   as_aux_lemma =>
   rw [HV2.out, if_neg (fun h => h.2 rfl)]
   go_enter Tryz.func68, Tryz.ntmps68
   go_wp2_with (first | (go_at_call 102; refine (CUT.out _).mono ?_; rintro e w1 ⟨rfl, nd, rfl⟩) | (go_at_call 91; with_reducible refine (TR1.out _).mono ?_; rintro e w2 ⟨rfl, hB⟩; have B2 := Aside0.mk (below_seq (pw_below_drewN (Below.refl w.heap.size w) nd) hB); clear hB) | (go_at_call 41; with_reducible refine (LO1.out _).mono ?_; rintro e w3 ⟨rfl, hB⟩; have B3 := Aside0.mk (below_seq B2.out hB); clear hB B2) | (go_at_call 105; refine (PR.out _).mono ?_; rintro e w4 ⟨rfl, hB⟩; have B4 := Aside0.mk (below_seq B3.out hB); clear hB B3))
   go_ret
   exact ⟨_, rfl, Kd.R_nil _ _ _ _ _, B4.out⟩
  have e0 : (P == 0) = false := beq_eq_false_iff_ne.2 hP0
  rw [if_pos ⟨rfl, hP0⟩] at HV2
  have HP0 := Aside0.mk hP0
  clear hP0
  rcases hM with rfl | hM1
  ·have HT4 : Aside0 (textsV 4 ⟨f.toArray⟩ = wordsV ⟨f.toArray⟩) := ⟨rfl⟩
   rw [HT4.out] at HV2
   have TZ := Aside0.mk (fun x hx => HTS.out 4 x (by rw [HT4.out]; exact hx) : ∀ x ∈ wordsV ⟨f.toArray⟩, x.size ≤ f.length)
   generalize wordsV ⟨f.toArray⟩ = ts at HV2 WD TZ
   clear HT4 HTS
   by_cases hl : 0 < ts.length ∧ ts.length ≤ 4
   ·rw [if_pos hl] at HV2
    obtain ⟨hl0, hl4⟩ := hl
    have e1 : ((ts.length : Int) == 0) = false := beq_eq_false_iff_ne.2 (by omega)
    have e2 : decide ((4 : Int) < (ts.length : Int)) = false := decide_eq_false (by omega)
    have SHC := Aside0.mk (fun W => sharedC ts.length W)
    as_aux_lemma =>
    go_enter Tryz.func68, Tryz.ntmps68
    go_wp2_with (first | (go_at_call 102; refine (CUT.out _).mono ?_; rintro e w1 ⟨rfl, nd, rfl⟩) | (go_at_call 91; with_reducible refine (TR1.out _).mono ?_; rintro e w2 ⟨rfl, hB⟩; have B2 := Aside0.mk (below_seq (pw_below_drewN (Below.refl w.heap.size w) nd) hB); clear hB) | (go_at_call 41; with_reducible refine (LO1.out _).mono ?_; rintro e w3 ⟨rfl, hB⟩; have B3 := Aside0.mk (below_seq B2.out hB); clear hB B2) | (go_at_call 105; refine (PR.out _).mono ?_; rintro e w4 ⟨rfl, hB⟩; have B4 := Aside0.mk (below_seq B3.out hB); clear hB B3) | (go_at_call 91; with_reducible refine (TR2.out _).mono ?_; rintro e w5 ⟨rfl, hB⟩; have B5 := Aside0.mk (below_seq B4.out hB); clear hB B4) | (go_at_call 41; with_reducible refine (LO2.out _).mono ?_; rintro e w6 ⟨rfl, hB⟩; have B6 := Aside0.mk (below_seq B5.out hB); clear hB B5) | (go_at_call 106; with_reducible refine (SU.out _).mono ?_; rintro e w7 ⟨rfl, rfl⟩) | (go_at_call 39; refine (WD.out _).mono ?_; rintro e w8 ⟨vT, rfl, hR, hB⟩; have RT := Aside0.mk hR; obtain ⟨AT, cT, rfl, hcT, hCT⟩ := Kd.R_reads hR; have B8 := Aside0.mk (below_then (below_alloc B6.out _) (below_alloc B6.out _).size hB); have CT := Aside0.mk hCT; clear hR hCT hB) | (go_at_call 107; refine (SHC.out _).mono ?_; rintro e w9 ⟨rfl, hB⟩; have B9 := Aside0.mk (below_seq B8.out hB); have K9 := Aside0.mk hB; clear hB))
    obtain ⟨g, hg⟩ : ∃ g, w9.heap.size = g := ⟨_, rfl⟩
    have SH := Aside0.mk (sh_lt ts.length hl0 hl4)
    have HG0 := Aside0.mk (heap_alloc_new w9 (Obj.cells #[.int .i64 (shV ts.length).1, .int .i64 (shV ts.length).2.1, .int .i64 (shV ts.length).2.2.1, .int .i64 (shV ts.length).2.2.2] 73))
    have BL := Aside0.mk (below_alloc B9.out (Obj.cells #[.int .i64 (shV ts.length).1, .int .i64 (shV ts.length).2.1, .int .i64 (shV ts.length).2.2.1, .int .i64 (shV ts.length).2.2.2] 73))
    have RTY := Aside0.mk (fun b hb => strs_type RT.out b hb)
    have TK0 := Aside0.mk (fun (b : Nat) (hb : (Value.slice AT ts.length cT).ownBlock = some b) => (heap_alloc_old w9 (Obj.cells #[.int .i64 (shV ts.length).1, .int .i64 (shV ts.length).2.1, .int .i64 (shV ts.length).2.2.1, .int .i64 (shV ts.length).2.2.2] 73) (by have := (RTY.out b hb).1; have := K9.out.size; omega)).trans (K9.out.block b (RTY.out b hb).1))
    have RD := Aside0.mk (fun (p : Int) (x : ByteArray) (W : World) (hx : x.size < 4294967281) => Val.readC p x W hx)
    rw [hg] at HG0
    obtain ⟨WL, hWL⟩ : ∃ W, w9.alloc (Obj.cells #[.int .i64 (shV ts.length).1, .int .i64 (shV ts.length).2.1, .int .i64 (shV ts.length).2.2.1, .int .i64 (shV ts.length).2.2.2] 73) = W := ⟨_, rfl⟩
    rw [hWL] at HG0 BL TK0 ⊢
    rw [hg]
    clear hWL hg
    go_loopw [10, 12, 13, 14, 59, 60, 61, 62, 63, 64, 65, 66, 67, 68, 69, 70, 71, 72, 73, 74, 75, 76, 77, 78, 79, 80, 81, 82, 83, 84, 85, 86] (fun v10 _ _ _ i _ _ _ _ _ _ _ _ _ _ _ _ _ _ _ _ _ _ _ _ _ _ _ _ _ _ _ wr => ∃ (k : Nat) (acc : List Dc), k ≤ 4 ∧ i = .int .i64 k ∧ Aside0 (acc.length ≤ k) ∧ Aside0 (Kd.R kDc 111 wr w.heap.size (fun _ => True) v10 acc) ∧ Aside0 (valsV P ts im (sharedV ts.length) (4 - k) k acc = rv) ∧ Aside0 (Below w.heap.size w wr) ∧ Aside0 (wr.heap[g]? = some (.cells #[.int .i64 (shV ts.length).1, .int .i64 (shV ts.length).2.1, .int .i64 (shV ts.length).2.2.1, .int .i64 (shV ts.length).2.2.2] 73)) ∧ Aside0 (∀ b, (Value.slice AT ts.length cT).ownBlock = some b → wr.heap[b]? = w8.heap[b]?)) (fun _ _ _ _ i _ _ _ _ _ _ _ _ _ _ _ _ _ _ _ _ _ _ _ _ _ _ _ _ _ _ _ _ => 4 - (RowKit.intOf i).toNat)
    case atStart => exact ⟨0, [], Nat.zero_le _, rfl, ⟨Nat.le_refl _⟩, ⟨Kd.R_nil _ _ _ _ _⟩, ⟨HV2.out.symm⟩, BL, HG0, TK0⟩
    case round =>
     clear HG0 BL TK0
     obtain ⟨k, acc, hk, rfl, LA, RO, HVV, BR, HG, TK⟩ := hrel
     by_cases hlt : k < 4
     ·have g1 : decide ((k : Int) < 4) = true := decide_eq_true (by omega)
      have p0 : (k : Int) < 4 := by omega
      obtain ⟨q, hq⟩ : ∃ q, (sharedV ts.length).getD k 0 = q := ⟨_, rfl⟩
      have hql : q < ts.length := by rw [← hq]; exact SH.out.2 k
      have hqc : wr.cell? ⟨g, k, none⟩ = some (.int .i64 (q : Int)) := by
       refine (cell_of_block HG.out k).trans ?_
       rw [← hq, SH.out.1]
       have hk4 : k = 0 ∨ k = 1 ∨ k = 2 ∨ k = 3 := by omega
       rcases hk4 with rfl | rfl | rfl | rfl <;> rfl
      have p1 : (q : Int) < (ts.length : Int) := by omega
      have CTr : Kd.C Kd.string wr AT ts.length ts := by
       obtain ⟨A, c, he, _, hC⟩ := strs_at RT.out TK.out
       injection he with h1 h2 h3
       rw [h1]; exact hC
      obtain ⟨ad, ea, hxc⟩ := str_cell CTr q hql hql
      have hx : ts.getD q ByteArray.empty = ts[q] := by rw [List.getD, List.getElem?_eq_getElem hql]; rfl
      have hxs : ts[q].size < 4294967281 := by have := TZ.out _ (List.getElem_mem hql); have := Z6.out; omega
      subst ea
      clear CTr
      generalize ts[q] = x at hxc hx hxs
      have hw : IntKind.i64.wrap (P + (k : Int)) = P + (k : Int) := by rw [i64_w]; unfold wrap64; omega
      have hw2 : wrap64 (P + (k : Int)) = P + (k : Int) := by unfold wrap64; omega
      have VN := Aside0.mk (fun (h : (Val.readV (P + (k : Int)) x).2 = false) => (valsV_no (p := P) (ts := ts) (im := im) (wh := sharedV ts.length) (d := 4 - (k + 1)) (i := k) (acc := acc) (by rw [hq, hx]; exact h)))
      have VY := Aside0.mk (fun (h : (Val.readV (P + (k : Int)) x).2 = true) => (valsV_yes (p := P) (ts := ts) (im := im) (wh := sharedV ts.length) (d := 4 - (k + 1)) (i := k) (acc := acc) (by rw [hq, hx]; exact h)))
      rw [hq, hx] at VY
      have hd : 4 - k = 4 - (k + 1) + 1 := by omega
      rw [hd] at HVV
      have RX := Aside0.mk (fun W => RD.out (P + (k : Int)) x W hxs)
      clear RD hd hq hx hxs
      obtain ⟨r, hr⟩ : ∃ r, Val.readV (P + (k : Int)) x = r := ⟨_, rfl⟩
      rw [hr] at VN VY RX
      obtain ⟨⟨ra, rb⟩, rc⟩ := r
      clear hr
      dsimp only at RX
      cases rc with
      | false =>
       have HN : Aside0 (rv = []) := ⟨HVV.out.symm.trans (VN.out rfl)⟩
       clear VN VY HVV
       as_aux_lemma =>
       go_wp2_with (first | (go_at_call 108; with_reducible refine (RX.out _).mono ?_; rintro e w10 ⟨rfl, hB⟩; have BX := Aside0.mk (below_then BR.out BR.out.size hB); clear hB))
       go_ret
       exact ⟨_, rfl, by rw [HN.out]; exact Kd.R_nil _ _ _ _ _, below_alloc BX.out _⟩
      | true =>
       have HY := Aside0.mk ((VY.out rfl).symm.trans HVV.out)
       clear VN VY HVV
       as_aux_lemma =>
       go_wp2_with (first | (go_at_call 108; with_reducible refine (RX.out _).mono ?_; rintro e w10 ⟨rfl, hB⟩; have BX := Aside0.mk (below_alloc (below_then BR.out BR.out.size hB) (Obj.cells #[.int .i64 ra, .int .i64 rb] 109)); have RO2 := Aside0.mk (Kd.R_alloc (Kd.R_below RO.out hB) (Obj.cells #[.int .i64 ra, .int .i64 rb] 109)); have MV := Aside0.mk (fun (k : Nat) (o : Obj) (h : wr.heap[k]? = some o) => (heap_alloc_old w10 (Obj.cells #[.int .i64 ra, .int .i64 rb] 109) (by have := heap_lt h; have := hB.size; omega)).trans ((hB.block k (heap_lt h)).trans h)); clear hB RO) | ((with_reducible refine gate_builtin (b := .append) (xs := #[.tmp 77, .tmp 84]) rfl ?_); at_builtin; refine Kd.R_append kDc (w0 := w) w.heap.size rfl (.tmp 77) (.tmp 84) 63 111 (.agg #[(.int .i64 0), (.int .i64 0), (.int .i64 0), (.bool false)]) 32 rfl Tryz.underlying63 infoD rfl (by decide) (by omega) _ acc (P + (k : Int), ra, rb, im) [.int .i64 (P + (k : Int)), .int .i64 ra, .int .i64 rb, .bool im] (fun _ => True) (fun _ => False) rfl (by first | (go_simp; done) | (go_simp; rfl)) ⟨_, _, rfl, rfl, ⟨_, _, rfl, rfl, ⟨_, _, rfl, rfl, rfl⟩⟩⟩ (fun _ hk => hk.elim) (fun _ _ => trivial) RO2.out BX.out BX.out.size (by have := LA.out; omega) ?_; intro v11 w11 ho hb hg hat; have RN := Aside0.mk ho; have BN := Aside0.mk hb; have HG2 := Aside0.mk ((hg.block g (heap_lt (MV.out _ _ HG.out)) (Kd.R_ne RO2.out (MV.out _ _ HG.out) (by decide))).trans (MV.out _ _ HG.out)); have TK2 := Aside0.mk (fun b hb => by obtain ⟨hlt_, cells, hc_⟩ := RTY.out b hb; have h1_ := (TK.out b hb).trans hc_; exact ((hg.block b (heap_lt (MV.out _ _ h1_)) (Kd.R_ne RO2.out (MV.out _ _ h1_) (by decide))).trans (MV.out _ _ h1_)).trans hc_.symm); clear ho hb hg hat))
       exact ⟨⟨k + 1, acc ++ [(P + (k : Int), ra, rb, im)], by omega, by go_num, ⟨by rw [List.length_append]; have := LA.out; simp; omega⟩, RN, HY, BN, HG2, TK2⟩, by simp [RowKit.intOf]; omega⟩
     ·obtain rfl : k = 4 := by omega
      have hv := HVV.out
      rw [Nat.sub_self] at hv
      have HE : Aside0 (acc = rv) := ⟨hv⟩
      clear hv HVV
      go_wp2
      go_ret
      exact ⟨_, rfl, by rw [← HE.out]; exact RO.out, BR.out⟩
   ·rw [if_neg hl] at HV2
    by_cases h0 : ts.length = 0
    ·have e1 : ((ts.length : Int) == 0) = true := beq_iff_eq.2 (by omega)
     as_aux_lemma =>
     rw [HV2.out]
     go_enter Tryz.func68, Tryz.ntmps68
     go_wp2_with (first | (go_at_call 102; refine (CUT.out _).mono ?_; rintro e w1 ⟨rfl, nd, rfl⟩) | (go_at_call 91; with_reducible refine (TR1.out _).mono ?_; rintro e w2 ⟨rfl, hB⟩; have B2 := Aside0.mk (below_seq (pw_below_drewN (Below.refl w.heap.size w) nd) hB); clear hB) | (go_at_call 41; with_reducible refine (LO1.out _).mono ?_; rintro e w3 ⟨rfl, hB⟩; have B3 := Aside0.mk (below_seq B2.out hB); clear hB B2) | (go_at_call 105; refine (PR.out _).mono ?_; rintro e w4 ⟨rfl, hB⟩; have B4 := Aside0.mk (below_seq B3.out hB); clear hB B3) | (go_at_call 91; with_reducible refine (TR2.out _).mono ?_; rintro e w5 ⟨rfl, hB⟩; have B5 := Aside0.mk (below_seq B4.out hB); clear hB B4) | (go_at_call 41; with_reducible refine (LO2.out _).mono ?_; rintro e w6 ⟨rfl, hB⟩; have B6 := Aside0.mk (below_seq B5.out hB); clear hB B5) | (go_at_call 106; with_reducible refine (SU.out _).mono ?_; rintro e w7 ⟨rfl, rfl⟩) | (go_at_call 39; refine (WD.out _).mono ?_; rintro e w8 ⟨vT, rfl, hR, hB⟩; obtain ⟨AT, cT, rfl, hcT, hCT⟩ := Kd.R_reads hR; have B8 := Aside0.mk (below_then (below_alloc B6.out _) (below_alloc B6.out _).size hB); clear hR hCT hB))
     go_ret
     exact ⟨_, rfl, Kd.R_nil _ _ _ _ _, B8.out⟩
    ·have e1 : ((ts.length : Int) == 0) = false := beq_eq_false_iff_ne.2 (by omega)
     have e2 : decide ((4 : Int) < (ts.length : Int)) = true := decide_eq_true (by omega)
     as_aux_lemma =>
     rw [HV2.out]
     go_enter Tryz.func68, Tryz.ntmps68
     go_wp2_with (first | (go_at_call 102; refine (CUT.out _).mono ?_; rintro e w1 ⟨rfl, nd, rfl⟩) | (go_at_call 91; with_reducible refine (TR1.out _).mono ?_; rintro e w2 ⟨rfl, hB⟩; have B2 := Aside0.mk (below_seq (pw_below_drewN (Below.refl w.heap.size w) nd) hB); clear hB) | (go_at_call 41; with_reducible refine (LO1.out _).mono ?_; rintro e w3 ⟨rfl, hB⟩; have B3 := Aside0.mk (below_seq B2.out hB); clear hB B2) | (go_at_call 105; refine (PR.out _).mono ?_; rintro e w4 ⟨rfl, hB⟩; have B4 := Aside0.mk (below_seq B3.out hB); clear hB B3) | (go_at_call 91; with_reducible refine (TR2.out _).mono ?_; rintro e w5 ⟨rfl, hB⟩; have B5 := Aside0.mk (below_seq B4.out hB); clear hB B4) | (go_at_call 41; with_reducible refine (LO2.out _).mono ?_; rintro e w6 ⟨rfl, hB⟩; have B6 := Aside0.mk (below_seq B5.out hB); clear hB B5) | (go_at_call 106; with_reducible refine (SU.out _).mono ?_; rintro e w7 ⟨rfl, rfl⟩) | (go_at_call 39; refine (WD.out _).mono ?_; rintro e w8 ⟨vT, rfl, hR, hB⟩; obtain ⟨AT, cT, rfl, hcT, hCT⟩ := Kd.R_reads hR; have B8 := Aside0.mk (below_then (below_alloc B6.out _) (below_alloc B6.out _).size hB); clear hR hCT hB))
     go_ret
     exact ⟨_, rfl, Kd.R_nil _ _ _ _ _, B8.out⟩
  ·obtain ⟨Mn, rfl⟩ : ∃ n : Nat, M = (n : Int) := ⟨1, by omega⟩
   have HMn : Aside0 (Mn = 1) := ⟨by omega⟩
   have HT1 : Aside0 (textsV (Mn : Int) ⟨f.toArray⟩ = [⟨f.toArray⟩]) := ⟨by rw [HMn.out]; rfl⟩
   rw [HT1.out, if_pos ⟨by simp, by simp⟩] at HV2
   have e4 : ((Mn : Int) == 4) = false := beq_eq_false_iff_ne.2 (by omega)
   clear HT1 HTS hM1
   have HV3 : Aside0 (rv = valsV P [⟨f.toArray⟩] im (sharedV 1) Mn 0 []) := ⟨HV2.out⟩
   clear HV2
   have HV2 := HV3
   clear HV3
   have hl0 : 0 < 1 := by decide
   have hl4 : 1 ≤ 4 := by decide
   have SHC := Aside0.mk (fun W => sharedC 1 W)
   as_aux_lemma =>
   go_enter Tryz.func68, Tryz.ntmps68
   go_wp2_with (first | (go_at_call 102; refine (CUT.out _).mono ?_; rintro e w1 ⟨rfl, nd, rfl⟩) | (go_at_call 91; with_reducible refine (TR1.out _).mono ?_; rintro e w2 ⟨rfl, hB⟩; have B2 := Aside0.mk (below_seq (pw_below_drewN (Below.refl w.heap.size w) nd) hB); clear hB) | (go_at_call 41; with_reducible refine (LO1.out _).mono ?_; rintro e w3 ⟨rfl, hB⟩; have B3 := Aside0.mk (below_seq B2.out hB); clear hB B2) | (go_at_call 105; refine (PR.out _).mono ?_; rintro e w4 ⟨rfl, hB⟩; have B4 := Aside0.mk (below_seq B3.out hB); clear hB B3) | (go_at_call 91; with_reducible refine (TR2.out _).mono ?_; rintro e w5 ⟨rfl, hB⟩; have B5 := Aside0.mk (below_seq B4.out hB); clear hB B4) | (go_at_call 41; with_reducible refine (LO2.out _).mono ?_; rintro e w6 ⟨rfl, hB⟩; have B6 := Aside0.mk (below_seq B5.out hB); clear hB B5) | (go_at_call 106; with_reducible refine (SU.out _).mono ?_; rintro e w7 ⟨rfl, rfl⟩) | (go_at_call 107; refine (SHC.out _).mono ?_; rintro e w9 ⟨rfl, hB⟩; have B9 := Aside0.mk (below_then (below_alloc B6.out _) (below_alloc B6.out _).size hB); have TB0 := Aside0.mk ((hB.block _ (heap_lt (heap_alloc_new w7 _))).trans (heap_alloc_new w7 _)); clear hB))
   obtain ⟨tb, htb⟩ : ∃ b, w7.heap.size = b := ⟨_, rfl⟩
   have TB9 : Aside0 (w9.heap[tb]? = some (.cells #[.string ⟨f.toArray⟩] 9)) := ⟨by rw [← htb]; exact TB0.out⟩
   rw [htb]
   clear htb TB0
   obtain ⟨g, hg⟩ : ∃ g, w9.heap.size = g := ⟨_, rfl⟩
   have SH := Aside0.mk (sh_lt 1 hl0 hl4)
   have HG0 := Aside0.mk (heap_alloc_new w9 (Obj.cells #[.int .i64 (shV 1).1, .int .i64 (shV 1).2.1, .int .i64 (shV 1).2.2.1, .int .i64 (shV 1).2.2.2] 73))
   have BL := Aside0.mk (below_alloc B9.out (Obj.cells #[.int .i64 (shV 1).1, .int .i64 (shV 1).2.1, .int .i64 (shV 1).2.2.1, .int .i64 (shV 1).2.2.2] 73))
   have TK0 := Aside0.mk ((heap_alloc_old w9 (Obj.cells #[.int .i64 (shV 1).1, .int .i64 (shV 1).2.1, .int .i64 (shV 1).2.2.1, .int .i64 (shV 1).2.2.2] 73) (heap_lt TB9.out)).trans TB9.out)
   have RD := Aside0.mk (fun (p : Int) (x : ByteArray) (W : World) (hx : x.size < 4294967281) => Val.readC p x W hx)
   rw [hg] at HG0
   obtain ⟨WL, hWL⟩ : ∃ W, w9.alloc (Obj.cells #[.int .i64 (shV 1).1, .int .i64 (shV 1).2.1, .int .i64 (shV 1).2.2.1, .int .i64 (shV 1).2.2.2] 73) = W := ⟨_, rfl⟩
   rw [hWL] at HG0 BL TK0 ⊢
   rw [hg]
   clear hWL hg
   go_loopw [10, 12, 13, 14, 59, 60, 61, 62, 63, 64, 65, 66, 67, 68, 69, 70, 71, 72, 73, 74, 75, 76, 77, 78, 79, 80, 81, 82, 83, 84, 85, 86] (fun v10 _ _ _ i _ _ _ _ _ _ _ _ _ _ _ _ _ _ _ _ _ _ _ _ _ _ _ _ _ _ _ wr => ∃ (k : Nat) (acc : List Dc), k ≤ Mn ∧ i = .int .i64 k ∧ Aside0 (acc.length ≤ k) ∧ Aside0 (Kd.R kDc 111 wr w.heap.size (fun _ => True) v10 acc) ∧ Aside0 (valsV P [(⟨f.toArray⟩ : ByteArray)] im (sharedV 1) (Mn - k) k acc = rv) ∧ Aside0 (Below w.heap.size w wr) ∧ Aside0 (wr.heap[g]? = some (.cells #[.int .i64 (shV 1).1, .int .i64 (shV 1).2.1, .int .i64 (shV 1).2.2.1, .int .i64 (shV 1).2.2.2] 73)) ∧ Aside0 (wr.heap[tb]? = some (.cells #[.string ⟨f.toArray⟩] 9))) (fun _ _ _ _ i _ _ _ _ _ _ _ _ _ _ _ _ _ _ _ _ _ _ _ _ _ _ _ _ _ _ _ _ => Mn - (RowKit.intOf i).toNat)
   case atStart => exact ⟨0, [], Nat.zero_le _, rfl, ⟨Nat.le_refl _⟩, ⟨Kd.R_nil _ _ _ _ _⟩, ⟨HV2.out.symm⟩, BL, HG0, TK0⟩
   case round =>
    clear HG0 BL TK0
    obtain ⟨k, acc, hk, rfl, LA, RO, HVV, BR, HG, TK⟩ := hrel
    by_cases hlt : k < Mn
    ·have g1 : decide ((k : Int) < (Mn : Int)) = true := decide_eq_true (by omega)
     have p0 : (k : Int) < 4 := by have := HMn.out; omega
     obtain ⟨q, hq⟩ : ∃ q, (sharedV 1).getD k 0 = q := ⟨_, rfl⟩
     have hql : q < 1 := by rw [← hq]; exact SH.out.2 k
     have hqc : wr.cell? ⟨g, k, none⟩ = some (.int .i64 (q : Int)) := by
      refine (cell_of_block HG.out k).trans ?_
      rw [← hq, SH.out.1]
      have hk4 : k = 0 ∨ k = 1 ∨ k = 2 ∨ k = 3 := by omega
      rcases hk4 with rfl | rfl | rfl | rfl <;> rfl
     have p1 : (q : Int) < (1 : Int) := by omega
     have hq0 : q = 0 := by omega
     have hxc : wr.cell? ⟨tb, q, none⟩ = some (.string ⟨f.toArray⟩) := by rw [hq0]; exact (cell_of_block TK.out 0).trans rfl
     have hxs : (⟨f.toArray⟩ : ByteArray).size < 4294967281 := Z5.out
     obtain ⟨x, hxx⟩ : ∃ x : ByteArray, ⟨f.toArray⟩ = x := ⟨_, rfl⟩
     rw [hxx] at hxc hxs
     have hx : [(⟨f.toArray⟩ : ByteArray)].getD q ByteArray.empty = x := by rw [hq0, ← hxx]; rfl
     subst hq0
     clear hxx
     have hw : IntKind.i64.wrap (P + (k : Int)) = P + (k : Int) := by rw [i64_w]; unfold wrap64; omega
     have hw2 : wrap64 (P + (k : Int)) = P + (k : Int) := by unfold wrap64; omega
     have VN := Aside0.mk (fun (h : (Val.readV (P + (k : Int)) x).2 = false) => (valsV_no (p := P) (ts := [(⟨f.toArray⟩ : ByteArray)]) (im := im) (wh := sharedV 1) (d := Mn - (k + 1)) (i := k) (acc := acc) (by rw [hq, hx]; exact h)))
     have VY := Aside0.mk (fun (h : (Val.readV (P + (k : Int)) x).2 = true) => (valsV_yes (p := P) (ts := [(⟨f.toArray⟩ : ByteArray)]) (im := im) (wh := sharedV 1) (d := Mn - (k + 1)) (i := k) (acc := acc) (by rw [hq, hx]; exact h)))
     rw [hq, hx] at VY
     have hd : Mn - k = Mn - (k + 1) + 1 := by omega
     rw [hd] at HVV
     have RX := Aside0.mk (fun W => RD.out (P + (k : Int)) x W hxs)
     clear RD hd hq hx hxs
     obtain ⟨r, hr⟩ : ∃ r, Val.readV (P + (k : Int)) x = r := ⟨_, rfl⟩
     rw [hr] at VN VY RX
     obtain ⟨⟨ra, rb⟩, rc⟩ := r
     clear hr
     dsimp only at RX
     cases rc with
     | false =>
      have HN : Aside0 (rv = []) := ⟨HVV.out.symm.trans (VN.out rfl)⟩
      clear VN VY HVV
      as_aux_lemma =>
      go_wp2_with (first | (go_at_call 108; with_reducible refine (RX.out _).mono ?_; rintro e w10 ⟨rfl, hB⟩; have BX := Aside0.mk (below_then BR.out BR.out.size hB); clear hB))
      go_ret
      exact ⟨_, rfl, by rw [HN.out]; exact Kd.R_nil _ _ _ _ _, below_alloc BX.out _⟩
     | true =>
      have HY := Aside0.mk ((VY.out rfl).symm.trans HVV.out)
      clear VN VY HVV
      as_aux_lemma =>
      go_wp2_with (first | (go_at_call 108; with_reducible refine (RX.out _).mono ?_; rintro e w10 ⟨rfl, hB⟩; have BX := Aside0.mk (below_alloc (below_then BR.out BR.out.size hB) (Obj.cells #[.int .i64 ra, .int .i64 rb] 109)); have RO2 := Aside0.mk (Kd.R_alloc (Kd.R_below RO.out hB) (Obj.cells #[.int .i64 ra, .int .i64 rb] 109)); have MV := Aside0.mk (fun (k : Nat) (o : Obj) (h : wr.heap[k]? = some o) => (heap_alloc_old w10 (Obj.cells #[.int .i64 ra, .int .i64 rb] 109) (by have := heap_lt h; have := hB.size; omega)).trans ((hB.block k (heap_lt h)).trans h)); clear hB RO) | ((with_reducible refine gate_builtin (b := .append) (xs := #[.tmp 77, .tmp 84]) rfl ?_); at_builtin; refine Kd.R_append kDc (w0 := w) w.heap.size rfl (.tmp 77) (.tmp 84) 63 111 (.agg #[(.int .i64 0), (.int .i64 0), (.int .i64 0), (.bool false)]) 32 rfl Tryz.underlying63 infoD rfl (by decide) (by omega) _ acc (P + (k : Int), ra, rb, im) [.int .i64 (P + (k : Int)), .int .i64 ra, .int .i64 rb, .bool im] (fun _ => True) (fun _ => False) rfl (by first | (go_simp; done) | (go_simp; rfl)) ⟨_, _, rfl, rfl, ⟨_, _, rfl, rfl, ⟨_, _, rfl, rfl, rfl⟩⟩⟩ (fun _ hk => hk.elim) (fun _ _ => trivial) RO2.out BX.out BX.out.size (by have := LA.out; omega) ?_; intro v11 w11 ho hb hg hat; have RN := Aside0.mk ho; have BN := Aside0.mk hb; have HG2 := Aside0.mk ((hg.block g (heap_lt (MV.out _ _ HG.out)) (Kd.R_ne RO2.out (MV.out _ _ HG.out) (by decide))).trans (MV.out _ _ HG.out)); have TK2 := Aside0.mk ((hg.block tb (heap_lt (MV.out _ _ TK.out)) (Kd.R_ne RO2.out (MV.out _ _ TK.out) (by decide))).trans (MV.out _ _ TK.out)); clear ho hb hg hat))
      exact ⟨⟨k + 1, acc ++ [(P + (k : Int), ra, rb, im)], by omega, by go_num, ⟨by rw [List.length_append]; have := LA.out; simp; omega⟩, RN, HY, BN, HG2, TK2⟩, by simp [RowKit.intOf]; omega⟩
    ·obtain rfl : k = Mn := by omega
     have hv := HVV.out
     rw [Nat.sub_self] at hv
     have HE : Aside0 (acc = rv) := ⟨hv⟩
     clear hv HVV
     go_wp2
     go_ret
     exact ⟨_, rfl, by rw [← HE.out]; exact RO.out, BR.out⟩
end Go.Proofs.Sht
