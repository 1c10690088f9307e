/- The reference's Read is the given program's; plain; no condition beside those that each theorem states. -/
import Derived.Test.YtmfhhlgjbjbnhaaGreatDoorHV7
import Derived.Test.YtmfhhlgjbjbnhaaGreatDoorPTd
import Derived.Test.YtmfhhlgjbjbnhaaGreatDoorHV8
import Derived.Test.YtmfhhlgjbjbnhaaGreatDoorHV9
import Derived.Test.YtmfhhlgjbjbnhaaGreatDoorHV10
set_option linter.unusedVariables false
set_option linter.unusedSimpArgs false
namespace Go.Proofs.YtmfhhlgjbjbnhaaGreatDoor.Pure
open Go.RowKit Go.Proofs.YtmfhhlgjbjbnhaaGreatDoor.HV Go.Proofs.YtmfhhlgjbjbnhaaGreatDoorW.PrintWords Go.Proofs.YtmfhhlgjbjbnhaaGreatDoorW.PrintLast Go.Proofs.Scn Go.Proofs.Val
/-- what a kind tells: a number, and whether it is one -/
def kindN (p : Nat) (kind : Int) (l : List UInt8) : Int × Bool :=
  if kind = 1 then (0, decide (l = autoW))
  else if kind = 4 then (colN l, colOk l)
  else if kind = 5 then rdWord (wordsP p) (ba l)
  else if kind = 6 then (numN l, numOk l)
  else if kind = 2 then (if l = [48] then 0 else numN (Lib.trimSuffix l [112, 120]), decide (l = [48]) || measOk l [112, 120])
  else (numN (Lib.trimSuffix l [37]), measOk l [37])
def kindB (p : Nat) (kind : Int) (l : List UInt8) : Bool := (kindN p kind l).2 && mayV p kind (kindN p kind l).1
theorem rRead1 (p kind : Int) (s : ByteArray) (hs : s.size ≤ 1000) (h1 : 1 ≤ kind) (h6 : kind ≤ 6) :
    ∃ m : Int, Ev (fun k => scrimref08_read.f k p kind s) (kind, m, kindB (cl p) kind s.data.toList) ∧ (kindB (cl p) kind s.data.toList = true → m = (kindN (cl p) kind s.data.toList).1) := by
  have fin : ∀ (kd m : Int) (b : Bool), kd = kind → b = (kindN (cl p) kind s.data.toList).2 → (b = true → m = (kindN (cl p) kind s.data.toList).1) → (g : Nat → Option (Int × Bool)) → Ev g (m, b) → (∀ k, scrimref08_read.f k p kind s = (g k).bind fun r => rdFin p kd r) →
      ∃ m : Int, Ev (fun k => scrimref08_read.f k p kind s) (kind, m, kindB (cl p) kind s.data.toList) ∧ (kindB (cl p) kind s.data.toList = true → m = (kindN (cl p) kind s.data.toList).1) := by
    intro kd m b hk hb hm g hg hf
    subst hk
    refine ⟨m, Ev.congr hf (Ev.bind hg ((Ev.now _).eq ?_)), fun hh => ?_⟩
    · unfold kindB
      rw [← hb]
      cases b
      · rfl
      · rw [← hm rfl]
    · unfold kindB at hh
      rw [Bool.and_eq_true] at hh
      exact hm (hb.trans hh.1)
  have hf : ∀ k, scrimref08_read.f k p kind s = (if kind = 1 then rdFin p 1 (0, decide (s.toList = [97, 117, 116, 111]))
    else if kind = 4 then (scrimref08_color.f k s).bind fun r => rdFin p 4 r
    else if kind = 5 then rdFin p 5 (rdWord (Val.wordsP (Val.cl p)) s)
    else if kind = 6 then (scrimref08_number.f k s).bind fun r => rdFin p 6 r
    else if kind = 2 then (scrimref08_number.f k (pxT s)).bind fun r => rdFin p 2 (r.1, r.2 && pxB s)
    else if kind = 3 then (scrimref08_number.f k (pcT s)).bind fun r => rdFin p 3 (r.1, r.2 && Lib.hasSuffix s.data.toList [37])
    else none) := fun k => by unfold scrimref08_read.f; rw [if_pos hs]
  have hsz := sz s
  obtain rfl | rfl | rfl | rfl | rfl | rfl : kind = 1 ∨ kind = 2 ∨ kind = 3 ∨ kind = 4 ∨ kind = 5 ∨ kind = 6 := by omega
  · exact fin 1 0 (decide (s.data.toList = autoW)) rfl rfl (fun _ => rfl) (fun _ => some (0, decide (s.data.toList = autoW))) (Ev.now _) (fun k => by rw [hf, if_pos rfl, toL]; rfl)
  · have hpx : (pxT s).data.toList = (if s.data.toList = [48] then [48] else if Lib.hasSuffix s.data.toList [112, 120] = true then Lib.trimSuffix s.data.toList [112, 120] else []) := by
      unfold pxT
      rw [toL]
      split
      · rfl
      split
      · rw [ba_data]
      · rfl
    have hlen : (pxT s).size ≤ 1000 := by
      rw [sz, hpx]
      have := trimSuffix_len s.data.toList [112, 120]
      split
      · simp
      split
      · omega
      · simp
    obtain ⟨m, r1, _, r3⟩ := rNumber 1000 (pxT s) hlen (by omega)
    rw [hpx] at r1 r3
    refine fin 2 m (numOk (if s.data.toList = [48] then [48] else if Lib.hasSuffix s.data.toList [112, 120] = true then Lib.trimSuffix s.data.toList [112, 120] else []) && pxB s) rfl ?_ ?_ (fun k => (scrimref08_number.f k (pxT s)).bind fun r => some (r.1, r.2 && pxB s)) (Ev.bind r1 (Ev.now _)) (fun k => by
      rw [hf, if_neg (by omega), if_neg (by omega), if_neg (by omega), if_neg (by omega), if_pos rfl]
      cases scrimref08_number.f k (pxT s) <;> rfl)
    · show _ = (decide (s.data.toList = [48]) || measOk s.data.toList [112, 120])
      unfold pxB measOk
      rw [toL]
      by_cases h0 : s.data.toList = [48]
      · rw [if_pos h0, decide_eq_true h0]; rfl
      · rw [if_neg h0, decide_eq_false h0, Bool.false_or, Bool.false_or]
        by_cases h2 : Lib.hasSuffix s.data.toList [112, 120] = true
        · rw [if_pos h2, h2, Bool.and_true, Bool.true_and]
        · rw [Bool.eq_false_iff.2 h2, Bool.and_false, Bool.false_and]
    · intro hh
      rw [Bool.and_eq_true] at hh
      obtain ⟨ha, hb⟩ := hh
      show m = (if s.data.toList = [48] then 0 else numN (Lib.trimSuffix s.data.toList [112, 120]))
      rw [r3 ha]
      by_cases h0 : s.data.toList = [48]
      · rw [if_pos h0, if_pos h0]; decide
      · rw [if_neg h0, if_neg h0]
        unfold pxB at hb
        rw [toL, decide_eq_false h0, Bool.false_or] at hb
        rw [if_pos hb]
  · have hpc : (pcT s).data.toList = (if Lib.hasSuffix s.data.toList [37] = true then Lib.trimSuffix s.data.toList [37] else []) := by
      unfold pcT
      split
      · rw [ba_data]
      · rfl
    have hlen : (pcT s).size ≤ 1000 := by
      rw [sz, hpc]
      have := trimSuffix_len s.data.toList [37]
      split
      · omega
      · simp
    obtain ⟨m, r1, _, r3⟩ := rNumber 1000 (pcT s) hlen (by omega)
    rw [hpc] at r1 r3
    refine fin 3 m (numOk (if Lib.hasSuffix s.data.toList [37] = true then Lib.trimSuffix s.data.toList [37] else []) && Lib.hasSuffix s.data.toList [37]) rfl ?_ ?_ (fun k => (scrimref08_number.f k (pcT s)).bind fun r => some (r.1, r.2 && Lib.hasSuffix s.data.toList [37])) (Ev.bind r1 (Ev.now _)) (fun k => by
      rw [hf, if_neg (by omega), if_neg (by omega), if_neg (by omega), if_neg (by omega), if_neg (by omega), if_pos rfl]
      cases scrimref08_number.f k (pcT s) <;> rfl)
    · show _ = measOk s.data.toList [37]
      unfold measOk
      by_cases h2 : Lib.hasSuffix s.data.toList [37] = true
      · rw [if_pos h2, h2, Bool.and_true, Bool.true_and]
      · rw [Bool.eq_false_iff.2 h2, Bool.and_false, Bool.false_and]
    · intro hh
      rw [Bool.and_eq_true] at hh
      obtain ⟨ha, hb⟩ := hh
      rw [r3 ha, if_pos hb]
      rfl
  · obtain ⟨m, r1, r2⟩ := rColor s
    exact fin 4 m (colOk s.data.toList) rfl rfl r2 (fun k => scrimref08_color.f k s) r1 (fun k => by rw [hf, if_neg (by omega), if_pos rfl])
  · exact fin 5 (rdWord (wordsP (cl p)) s).1 (rdWord (wordsP (cl p)) s).2 rfl (by show _ = (rdWord (wordsP (cl p)) (ba s.data.toList)).2; rw [data_ba]) (fun _ => by show _ = (rdWord (wordsP (cl p)) (ba s.data.toList)).1; rw [data_ba]) (fun _ => some (rdWord (wordsP (cl p)) s)) (Ev.now _) (fun k => by rw [hf, if_neg (by omega), if_neg (by omega), if_pos rfl]; rfl)
  · obtain ⟨m, r1, _, r3⟩ := rNumber 1000 s hs (by omega)
    exact fin 6 m (numOk s.data.toList) rfl rfl r3 (fun k => scrimref08_number.f k s) r1 (fun k => by rw [hf, if_neg (by omega), if_neg (by omega), if_neg (by omega), if_pos rfl])
/-- the first kind, from one on, that fits -/
def firstK (p : Nat) (l : List UInt8) : Nat → Int → (Int × Int) × Bool
  | 0, _ => ((0, 0), false)
  | n + 1, kind => if kindB p kind l = true then ((kind, (kindN p kind l).1), true) else firstK p l n (kind + 1)
/-- which kinds a property has -/
theorem fin_one : ∀ p : Fin 27,
    ((rec0 p.val).auto = true → (rec0 p.val).length = true ∧ (rec0 p.val).color = false ∧ (wordsP p.val).length = 0 ∧ (rec0 p.val).number = false) ∧
    ((rec0 p.val).part = true → (rec0 p.val).length = true) ∧
    ((rec0 p.val).length = true → (rec0 p.val).color = false ∧ (wordsP p.val).length = 0 ∧ (rec0 p.val).number = false) ∧
    ((rec0 p.val).color = true → (rec0 p.val).auto = false ∧ (rec0 p.val).length = false ∧ (rec0 p.val).part = false ∧ (wordsP p.val).length = 0 ∧ (rec0 p.val).number = false) ∧
    ((rec0 p.val).number = true → (rec0 p.val).auto = false ∧ (rec0 p.val).length = false ∧ (rec0 p.val).part = false ∧ (wordsP p.val).length = 0 ∧ (rec0 p.val).color = false) ∧
    ((wordsP p.val).length ≠ 0 → (rec0 p.val).auto = false ∧ (rec0 p.val).length = false ∧ (rec0 p.val).part = false ∧ (rec0 p.val).number = false ∧ (rec0 p.val).color = false) := by decide +kernel
theorem kB_no {p : Nat} (hp : p ≤ 26) {kind : Int} {l : List UInt8} (h : hasV p kind = false) : kindB p kind l = false := by
  unfold kindB
  rw [mayV_has p hp kind _ h, Bool.and_false]
theorem mayV_auto {p : Nat} (h : (rec0 p).auto = true) : mayV p 1 0 = true := by unfold mayV; rw [if_pos rfl, h]; rfl
theorem mayV_zero2 {p : Nat} (h : (rec0 p).length = true) : mayV p 2 0 = true := by
  unfold mayV
  have hl : Val.lowV p ≤ 0 := by unfold Val.lowV; split <;> omega
  rw [if_neg (by omega), if_pos rfl, h, decide_eq_true hl, decide_eq_true (by omega)]; rfl
theorem px_not_pc {l : List UInt8} (h : measOk l [112, 120] = true) : measOk l [37] = false := by
  unfold measOk at h ⊢
  rw [Bool.and_eq_true] at h
  have h1 := h.1
  unfold Lib.hasSuffix at h1
  rw [List.isSuffixOf_iff_suffix] at h1
  obtain ⟨t, rfl⟩ := h1
  have := suf_last (l := t ++ [112]) (s := []) (c := 120) (d := 37) (by decide)
  rw [List.append_assoc] at this
  rw [show Lib.hasSuffix (t ++ [112, 120]) [37] = false from this]; rfl
theorem meas_nil (l : List UInt8) : measOk l [] = numOk l ∧ measV l [] 6 = (if numOk l = true then (6, numN l) else (0, 0)) := by
  have h1 : Lib.hasSuffix l [] = true := by unfold Lib.hasSuffix; rw [List.isSuffixOf_iff_suffix]; exact List.nil_suffix
  have h2 : Lib.trimSuffix l [] = l := by unfold Lib.trimSuffix; rw [if_pos h1]; simp
  have h3 : measOk l [] = numOk l := by unfold measOk; rw [h1, h2, Bool.true_and]
  exact ⟨h3, by unfold measV; rw [h3, h2]⟩
theorem readL_first (p : Nat) (hp : p ≤ 26) (l : List UInt8) : readL p l = firstK p l 6 1 := by
  obtain ⟨fa, fpt, fl, fc, fnn, fw⟩ := fin_one ⟨p, by omega⟩
  simp only at fa fpt fl fc fnn fw
  have hwl := wordsP_len p hp
  have H : ∀ kind, hasV p kind = (if kind = 1 then (rec0 p).auto else if kind = 2 then (rec0 p).length else if kind = 3 then (rec0 p).part else if kind = 4 then (rec0 p).color else if kind = 5 then decide ((rec0 p).wn ≠ 0) else if kind = 6 then (rec0 p).number else false) := fun _ => rfl
  have k1 : (rec0 p).auto = false → kindB p 1 l = false := fun h => kB_no hp h
  have k2 : (rec0 p).length = false → kindB p 2 l = false := fun h => kB_no hp h
  have k3 : (rec0 p).part = false → kindB p 3 l = false := fun h => kB_no hp h
  have k4 : (rec0 p).color = false → kindB p 4 l = false := fun h => kB_no hp h
  have k5 : (wordsP p).length = 0 → kindB p 5 l = false := fun h => kB_no hp (by show decide ((rec0 p).wn ≠ 0) = false; rw [hwl, h]; rfl)
  have k6 : (rec0 p).number = false → kindB p 6 l = false := fun h => kB_no hp h
  have b1 : kindB p 1 l = (decide (l = autoW) && mayV p 1 0) := rfl
  have b2 : kindB p 2 l = ((decide (l = [48]) || measOk l [112, 120]) && mayV p 2 (if l = [48] then 0 else numN (Lib.trimSuffix l [112, 120]))) := rfl
  have b3 : kindB p 3 l = (measOk l [37] && mayV p 3 (numN (Lib.trimSuffix l [37]))) := rfl
  have b4 : kindB p 4 l = (colOk l && mayV p 4 (colN l)) := rfl
  have b5 : kindB p 5 l = ((rdWord (wordsP p) (ba l)).2 && mayV p 5 (rdWord (wordsP p) (ba l)).1) := rfl
  have b6 : kindB p 6 l = (numOk l && mayV p 6 (numN l)) := rfl
  have FK : firstK p l 6 1 = (if kindB p 1 l = true then ((1, 0), true) else if kindB p 2 l = true then ((2, if l = [48] then 0 else numN (Lib.trimSuffix l [112, 120])), true) else if kindB p 3 l = true then ((3, numN (Lib.trimSuffix l [37])), true) else if kindB p 4 l = true then ((4, colN l), true) else if kindB p 5 l = true then ((5, (rdWord (wordsP p) (ba l)).1), true) else if kindB p 6 l = true then ((6, numN l), true) else ((0, 0), false)) := rfl
  rw [FK]
  have RL : ∀ r, anyP p l = r → readL p l = if (r.2 && mayV p r.1.1 r.1.2) = true then (r.1, true) else ((0, 0), false) := fun r h => by unfold readL; rw [h]
  by_cases w0 : (wordsP p).length = 0
  · have hnil := nil_of w0
    rw [k5 w0]
    have e5 : anyP p l = (if ((rec0 p).auto && decide (l = autoW)) = true then ((1, 0), true) else if ((rec0 p).length && decide (l = [48])) = true then ((2, 0), true) else if (rec0 p).color = true then ((4, colN l), colOk l)
        else if ((rec0 p).length && measOk l [112, 120]) = true then (measV l [112, 120] 2, true) else if (rec0 p).part = true then (measV l [37] 3, measOk l [37]) else if (rec0 p).number = true then (measV l [] 6, measOk l []) else ((0, 0), false)) := by
      unfold anyP anyR
      rw [hnil, if_neg (idx_nil _)]
    cases hlen : (rec0 p).length with
    | true =>
      obtain ⟨c1, c2, c3⟩ := fl hlen
      rw [hlen, c1, c3] at e5
      simp only [Bool.true_and, Bool.false_eq_true, if_false] at e5
      rw [k4 c1, k6 c3]
      simp only [Bool.false_eq_true, if_false]
      have LT : anyP p l = (if decide (l = [48]) = true then ((2, 0), true) else if measOk l [112, 120] = true then (measV l [112, 120] 2, true) else if (rec0 p).part = true then (measV l [37] 3, measOk l [37]) else ((0, 0), false)) →
          readL p l = (if kindB p 2 l = true then ((2, if l = [48] then 0 else numN (Lib.trimSuffix l [112, 120])), true) else if kindB p 3 l = true then ((3, numN (Lib.trimSuffix l [37])), true) else ((0, 0), false)) := by
        intro e5
        by_cases h0 : l = [48]
        · rw [if_pos (decide_eq_true h0)] at e5
          rw [RL _ e5, b2, decide_eq_true h0, if_pos h0, mayV_zero2 hlen]
          rfl
        · rw [if_neg (by rw [decide_eq_false h0]; simp)] at e5
          rw [b2, decide_eq_false h0, Bool.false_or, if_neg h0, b3]
          by_cases hx : measOk l [112, 120] = true
          · rw [if_pos hx] at e5
            have hv : measV l [112, 120] 2 = (2, numN (Lib.trimSuffix l [112, 120])) := by unfold measV; rw [if_pos hx]
            rw [hv] at e5
            rw [RL _ e5, hx, px_not_pc hx, Bool.true_and, Bool.false_and]
            simp only [Bool.true_and, Bool.false_eq_true, if_false]
          · rw [if_neg hx] at e5
            rw [Bool.eq_false_iff.2 hx, Bool.false_and]
            simp only [Bool.false_eq_true, if_false]
            cases hpt : (rec0 p).part with
            | true =>
              rw [hpt, if_pos rfl] at e5
              rw [RL _ e5]
              by_cases hc : measOk l [37] = true
              · have hv : measV l [37] 3 = (3, numN (Lib.trimSuffix l [37])) := by unfold measV; rw [if_pos hc]
                rw [hv, hc]
              · rw [Bool.eq_false_iff.2 hc]
                simp only [Bool.false_and, Bool.false_eq_true, if_false]
            | false =>
              rw [hpt] at e5
              simp only [Bool.false_eq_true, if_false] at e5
              have h3 := k3 hpt
              rw [b3] at h3
              rw [RL _ e5, h3]
              simp only [Bool.false_and, Bool.false_eq_true, if_false]
      cases hau : (rec0 p).auto with
      | true =>
        rw [hau, Bool.true_and] at e5
        by_cases ha : l = autoW
        · rw [if_pos (decide_eq_true ha)] at e5
          rw [RL _ e5, b1, decide_eq_true ha, mayV_auto hau]
          rfl
        · rw [if_neg (by rw [decide_eq_false ha]; simp)] at e5
          rw [b1, decide_eq_false ha, Bool.false_and]
          simp only [Bool.false_eq_true, if_false]
          exact LT e5
      | false =>
        rw [hau, Bool.false_and] at e5
        rw [k1 hau]
        simp only [Bool.false_eq_true, if_false] at e5 ⊢
        exact LT e5
    | false =>
      have ha : (rec0 p).auto = false := by
        cases h : (rec0 p).auto
        · rfl
        · rw [(fa h).1] at hlen; cases hlen
      have hpt : (rec0 p).part = false := by
        cases h : (rec0 p).part
        · rfl
        · rw [fpt h] at hlen; cases hlen
      rw [hlen, ha, hpt] at e5
      rw [k1 ha, k2 hlen, k3 hpt]
      simp only [Bool.false_and, Bool.false_eq_true, if_false] at e5 ⊢
      cases hco : (rec0 p).color with
      | true =>
        rw [hco, if_pos rfl] at e5
        rw [RL _ e5, b4, k6 (fc hco).2.2.2.2]
        simp only [Bool.false_eq_true, if_false]
      | false =>
        rw [hco] at e5
        rw [k4 hco]
        simp only [Bool.false_eq_true, if_false] at e5 ⊢
        cases hnu : (rec0 p).number with
        | true =>
          rw [hnu, if_pos rfl, (meas_nil l).1, (meas_nil l).2] at e5
          rw [RL _ e5, b6]
          by_cases hk : numOk l = true
          · rw [hk, if_pos rfl]
          · rw [Bool.eq_false_iff.2 hk]
            simp only [Bool.false_and, Bool.false_eq_true, if_false]
        | false =>
          rw [hnu] at e5
          rw [k6 hnu, RL _ e5]
          simp only [Bool.false_and, Bool.false_eq_true, if_false]
  · obtain ⟨x1, x2, x3, x4, x5⟩ := fw w0
    rw [k1 x1, k2 x2, k3 x3, k4 x5, k6 x4]
    simp only [Bool.false_eq_true, if_false]
    have e5 : anyP p l = (if 0 ≤ Lib.idxOfS (wordsP p) (ba l) then ((5, Lib.idxOfS (wordsP p) (ba l)), true) else ((0, 0), false)) := by
      unfold anyP anyR
      rw [x1, x2, x3, x4, x5]
      simp only [Bool.false_and, Bool.false_eq_true, if_false]
      rfl
    rw [RL _ e5, b5]
    unfold rdWord
    by_cases hi : 0 ≤ Lib.idxOfS (wordsP p) (ba l)
    · rw [if_pos hi, if_pos hi]
    · rw [if_neg hi, if_neg hi]
      simp only [Bool.false_and, Bool.false_eq_true, if_false]
end Go.Proofs.YtmfhhlgjbjbnhaaGreatDoor.Pure
set_option linter.unusedVariables false
set_option linter.unusedSimpArgs false
namespace Go.Proofs.YtmfhhlgjbjbnhaaGreatDoor.Pure
open Go.RowKit Go.Proofs.YtmfhhlgjbjbnhaaGreatDoor.HV Go.Proofs.YtmfhhlgjbjbnhaaGreatDoorW.PrintWords Go.Proofs.YtmfhhlgjbjbnhaaGreatDoorW.PrintLast Go.Proofs.Scn Go.Proofs.Val
/-! ### Read -/
theorem rRead_l (p : Int) (s : ByteArray) (hs : s.size ≤ 1000) : ∀ (n i : Nat), i + n = 7 → 1 ≤ i → ∃ r : (Int × Int) × Bool, Ev (fun k => scrimref08_Read.l0 k p s (i : Int)) (r.1.1, r.1.2, r.2) ∧ r = firstK (cl p) s.data.toList n (i : Int)
  | 0, i, h, h1 => by
    refine ⟨((0, 0), false), ?_, rfl⟩
    exact Ev.step (f := fun k => some (0, 0, false)) (fun k => by rw [scrimref08_Read.l0, if_neg (by omega)]) (Ev.now _)
  | n + 1, i, h, h1 => by
    obtain ⟨r, hr, er⟩ := rRead_l p s hs n (i + 1) (by omega) (by omega)
    obtain ⟨m, hm, hv⟩ := rRead1 p (i : Int) s hs (by omega) (by omega)
    by_cases hb : kindB (cl p) (i : Int) s.data.toList = true
    · refine ⟨(((i : Int), (kindN (cl p) (i : Int) s.data.toList).1), true), ?_, by show _ = (if kindB (cl p) (i : Int) s.data.toList = true then _ else _); rw [if_pos hb]⟩
      refine Ev.step (f := fun k => (scrimref08_read.f k p (i : Int) s).bind fun bt211 => if bt211.2.2 = true then some (bt211.1, bt211.2.1, true) else scrimref08_Read.l0 k p s (wrap64 ((i : Int) + 1))) (fun k => by rw [scrimref08_Read.l0, if_pos (by omega)]) ?_
      refine Ev.bind hm ?_
      rw [hb]
      exact (Ev.now _).eq (by rw [hv hb])
    · refine ⟨r, ?_, by show _ = (if kindB (cl p) (i : Int) s.data.toList = true then _ else _); rw [if_neg hb, er]; congr 1⟩
      refine Ev.step (f := fun k => (scrimref08_read.f k p (i : Int) s).bind fun bt211 => if bt211.2.2 = true then some (bt211.1, bt211.2.1, true) else scrimref08_Read.l0 k p s (wrap64 ((i : Int) + 1))) (fun k => by rw [scrimref08_Read.l0, if_pos (by omega)]) ?_
      refine Ev.bind hm ?_
      simp only [Bool.eq_false_iff.2 hb, Bool.false_eq_true, if_false]
      exact Ev.congr (fun k => by rw [w64s i (by omega)]) hr
theorem rRead (p : Int) (s : ByteArray) (hs : s.size ≤ 200) : Ev (fun k => scrimref08_Read.f k p s) ((readV p s).1.1, (readV p s).1.2, (readV p s).2) := by
  have ht := trimV_size s
  have hl := lowV_size (trimV s)
  refine Ev.bind (rTrim 1000 s (by omega) (by omega)) (Ev.bind (rLower (trimV s) (by omega)) ?_)
  obtain ⟨r, hr, er⟩ := rRead_l p (Scn.lowV (trimV s)) (by omega) 6 1 rfl (by omega)
  have : readV p s = r := by
    unfold readV
    rw [readL_first _ (cl_le p), er]
    rfl
  rw [this]
  exact hr
/-! ### Name, Prop -/
theorem fin_name : ∀ p : Fin 27, scrimref08_Name.f (p.val : Int) = some (rec0 p.val).name := by decide +kernel
theorem rName (p : Int) : scrimref08_Name.f p = some (nameP p) := by
  by_cases hp : 1 ≤ p ∧ p ≤ 26
  · obtain ⟨q, rfl⟩ : ∃ q : Nat, p = (q : Int) := ⟨p.toNat, by omega⟩
    unfold nameP
    rw [cl_in hp.1 hp.2, Int.toNat_natCast]
    exact fin_name ⟨q, by omega⟩
  · unfold nameP
    rw [cl_out hp]
    by_cases h0 : p = 0
    · subst h0; exact fin_name ⟨0, by omega⟩
    · unfold scrimref08_Name.f
      rw [Option.bind_some]
      by_cases h1 : p < 0
      · rw [if_pos h1]; rfl
      · rw [if_neg h1, if_pos (by show p ≥ ((27 : Nat) : Int); omega)]; rfl
theorem rProp_l (s : ByteArray) : ∀ (n i : Nat), i + n = 26 → Ev (fun k => scrimref08_Prop.l0 k s ((i + 1 : Nat) : Int)) (if Lib.idxFromS (namesL.drop i) s i < 0 then 0 else Lib.idxFromS (namesL.drop i) s i + 1)
  | 0, i, h => by
    have e : namesL.drop i = [] := List.drop_eq_nil_of_le (by rw [names_len]; omega)
    rw [e]
    refine Ev.step (f := fun k => some 0) (fun k => by rw [scrimref08_Prop.l0, if_neg (by omega)]) ((Ev.now _).eq ?_)
    simp [Lib.idxFromS]
  | n + 1, i, h => by
    have ih := rProp_l s n (i + 1) (by omega)
    have hlt : i < namesL.length := by rw [names_len]; omega
    have e : namesL.drop i = namesL[i] :: namesL.drop (i + 1) := List.drop_eq_getElem_cons hlt
    have hn : nameP ((i + 1 : Nat) : Int) = namesL[i] := by
      unfold nameP
      rw [cl_in (by omega) (by omega), Int.toNat_natCast, ← names_at i (by omega), List.getD, List.getElem?_eq_getElem hlt]
      rfl
    refine Ev.step (f := fun k => if namesL[i].toList = s.toList then some ((i + 1 : Nat) : Int) else scrimref08_Prop.l0 k s (wrap64 (((i + 1 : Nat) : Int) + 1))) (fun k => by rw [scrimref08_Prop.l0, if_pos (by omega), rName, Option.bind_some, hn]) ?_
    rw [e]
    by_cases hx : namesL[i] = s
    · simp only [hx, if_true]
      refine (Ev.now _).eq ?_
      simp only [Lib.idxFromS, if_true]
      rw [if_neg (by omega)]
      omega
    · have hx2 : ¬ namesL[i].toList = s.toList := fun q => hx (toL_inj q)
      simp only [if_neg hx2]
      refine Ev.congr (fun k => by rw [w64s (i + 1) (by omega)]) (ih.eq ?_)
      simp only [Lib.idxFromS, if_neg hx]
theorem rProp (s : ByteArray) : Ev (fun k => scrimref08_Prop.f k s) (propV s) := by
  refine (rProp_l s 26 0 rfl).eq ?_
  unfold propV propI Lib.idxOfS
  rw [List.drop_zero]
  have := idxFrom_bd s namesL 0
  split <;> omega
/-! ### First -/
theorem fin_first : ∀ p : Fin 27, scrimref08_First.f 20 (p.val : Int) = some (firstP (p.val : Int)) := by decide +kernel
theorem rFirst (p : Int) : Ev (fun k => scrimref08_First.f k p) (firstP p) := by
  by_cases hp : 1 ≤ p ∧ p ≤ 26
  · obtain ⟨q, rfl⟩ : ∃ q : Nat, p = (q : Int) := ⟨p.toNat, by omega⟩
    exact Ev.of (fun k => scrimref08_First.mono _ k) (fin_first ⟨q, by omega⟩)
  · have e : firstP p = (0, 0) := by unfold firstP; rw [cl_out hp]; rfl
    rw [e]
    have hl : ∀ (n i : Nat), i + n = 7 → Ev (fun k => scrimref08_First.l0 k p (i : Int)) (0, 0) := by
      intro n
      induction n with
      | zero => intro i h; exact Ev.step (f := fun k => some (0, 0)) (fun k => by rw [scrimref08_First.l0, if_neg (by omega)]) (Ev.now _)
      | succ n ih =>
        intro i h
        refine Ev.step (f := fun k => scrimref08_First.l0 k p ((i + 1 : Nat) : Int)) (fun k => ?_) (ih (i + 1) (by omega))
        rw [scrimref08_First.l0, if_pos (by omega), has_out p _ hp, Option.bind_some, if_neg (by simp), w64s i (by omega)]
    refine Ev.congr (f := fun k => scrimref08_First.j0 k p false) (fun k => ?_) (Ev.step (f := fun k => scrimref08_First.l0 k p ((2 : Nat) : Int)) (fun k => ?_) (hl 5 2 rfl))
    · rw [scrimref08_First.f, if_neg (by omega), if_neg (by omega)]
      congr 1
      exact beq_eq_false_iff_ne.2 (by omega)
    · rw [scrimref08_First.j0, if_neg (by simp), if_neg (by omega), if_neg (by omega), if_neg (by omega)]
      rfl
/-! ### decimals -/
theorem ten_dig : ∀ d : Fin 10, (⟨#[48, 49, 50, 51, 52, 53, 54, 55, 56, 57]⟩ : ByteArray).extract d.val (d.val + 1) = ⟨#[UInt8.ofNat (48 + d.val)]⟩ := by decide +kernel
theorem ba_apd (a b : List UInt8) : ba a ++ ba b = ba (a ++ b) := ba_app a b
theorem ba_sz (l : List UInt8) : (ba l).size = l.length := rfl
theorem rText : ∀ (m n : Nat), n ≤ m → n ≤ 1000000000000 → Ev (fun k => scrimref08_text.f k (n : Int)) (ba (Lib.decDigits n))
  | m, n, hm, hn => by
    by_cases h : n < 10
    · have hd : Lib.decDigits n = [UInt8.ofNat (48 + n)] := Lib.decDigits_one h
      have hw : wrap64 ((n : Int) + 1) = ((n + 1 : Nat) : Int) := by rw [w64 (by omega) (by omega)]; omega
      refine Ev.step (f := fun k => some (ba (Lib.decDigits n))) (fun k => ?_) (Ev.now _)
      rw [scrimref08_text.f, if_pos (by omega), if_pos (by omega), hw, if_pos (by omega), if_pos (by omega), hd, Int.toNat_natCast, Int.toNat_natCast]
      exact congrArg some (ten_dig ⟨n, h⟩)
    · cases m with
      | zero => omega
      | succ m =>
        have i1 := rText m (n / 10) (by omega) (by omega)
        have i2 := rText m (n % 10) (by omega) (by omega)
        have hd : Lib.decDigits n = Lib.decDigits (n / 10) ++ [UInt8.ofNat (48 + n % 10)] := by rw [Lib.decDigits, dif_neg h]
        have hd2 : Lib.decDigits (n % 10) = [UInt8.ofNat (48 + n % 10)] := Lib.decDigits_one (Nat.mod_lt _ (by omega))
        have e12 : (10 : Nat) ^ 13 = 10000000000000 := by decide
        have hl := dd_len (u := n / 10) (k := 13) (by omega) (by omega)
        refine Ev.step (f := fun k => (scrimref08_text.f k ((n / 10 : Nat) : Int)).bind fun t220 => (scrimref08_text.f k ((n % 10 : Nat) : Int)).bind fun t221 => if t220.size + t221.size ≤ 9223372036854775807 then some (t220 ++ t221) else none) (fun k => ?_) ?_
        · have q1 : Int.tdiv (n : Int) 10 = ((n / 10 : Nat) : Int) := by rw [Int.tdiv_eq_ediv_of_nonneg (by omega)]; omega
          have q2 : Int.tmod (n : Int) 10 = ((n % 10 : Nat) : Int) := by rw [Int.tmod_eq_emod_of_nonneg (by omega)]; omega
          rw [scrimref08_text.f, if_neg (by omega), q1, q2, w64 (by omega) (by omega)]
        · refine Ev.bind i1 (Ev.bind i2 ?_)
          rw [if_pos (by rw [ba_sz, ba_sz, hd2]; simp; omega)]
          refine (Ev.now _).eq ?_
          rw [ba_apd, hd2, ← hd]
/-- the places behind the point, as the reference makes them -/
def plc : Nat → Nat → List UInt8
  | 0, _ => []
  | f + 1, r => if r = 0 then [] else UInt8.ofNat (48 + 10 * r / 64) :: plc f (10 * r % 64)
theorem fin_plc : ∀ r : Fin 64, plc 6 r.val = fracL r.val := by decide +kernel
theorem plc_len : ∀ f r, (plc f r).length ≤ f
  | 0, _ => by simp [plc]
  | f + 1, r => by
    unfold plc
    split
    · simp
    · have := plc_len f (10 * r % 64)
      simp; omega
theorem rPlaces : ∀ (f r : Nat) (l : List UInt8), r < 64 → 10 ^ f * r % 64 = 0 → l.length + f ≤ 1000 → Ev (fun k => scrimref08_decimal.l0 k (ba l) (r : Int)) (ba (l ++ plc f r))
  | f, r, l, hr, h0, hl => by
    by_cases hz : r = 0
    · subst hz
      refine Ev.step (f := fun k => some (ba l)) (fun k => by rw [scrimref08_decimal.l0, if_neg (by omega)]) ((Ev.now _).eq ?_)
      cases f <;> simp [plc]
    · cases f with
      | zero => simp at h0; omega
      | succ f =>
        have hd : Lib.decDigits (10 * r / 64) = [UInt8.ofNat (48 + 10 * r / 64)] := Lib.decDigits_one (by omega)
        have ih := rPlaces f (10 * r % 64) (l ++ [UInt8.ofNat (48 + 10 * r / 64)]) (Nat.mod_lt _ (by omega)) (by
          rw [Nat.mul_mod, Nat.mod_mod, ← Nat.mul_mod, ← Nat.mul_assoc, ← Nat.pow_succ]; exact h0) (by simp; omega)
        refine Ev.step (f := fun k => (scrimref08_text.f k ((10 * r / 64 : Nat) : Int)).bind fun t224 => if (ba l).size + t224.size ≤ 9223372036854775807 then scrimref08_decimal.l0 k (ba l ++ t224) ((10 * r % 64 : Nat) : Int) else none) (fun k => ?_) ?_
        · have q0 : wrap64 (10 * (r : Int)) = 10 * (r : Int) := w64 (by omega) (by omega)
          have q1 : Int.tdiv (10 * (r : Int)) 64 = ((10 * r / 64 : Nat) : Int) := by rw [Int.tdiv_eq_ediv_of_nonneg (by omega)]; omega
          have q2 : Int.tmod (10 * (r : Int)) 64 = ((10 * r % 64 : Nat) : Int) := by rw [Int.tmod_eq_emod_of_nonneg (by omega)]; omega
          rw [scrimref08_decimal.l0, if_pos (by omega), q0, q1, q2, w64 (by omega) (by omega)]
        · refine Ev.bind (rText _ _ (Nat.le_refl _) (by omega)) ?_
          rw [hd]
          simp only [if_pos (show (ba l).size + (ba [UInt8.ofNat (48 + 10 * r / 64)]).size ≤ 9223372036854775807 by rw [ba_sz, ba_sz]; simp; omega), ba_apd]
          refine ih.eq ?_
          rw [plc, if_neg hz, List.append_assoc]
          rfl
theorem rDec0 (n : Nat) (hn : n ≤ 63999999999) : Ev (fun k => scrimref08_decimal.f k (n : Int)) (ba (decL (n : Int))) := by
  have hdl : decL (n : Int) = Lib.decDigits (n / 64) ++ (if fracL (n % 64) = [] then [] else 46 :: fracL (n % 64)) := by
    rw [decL_eq, if_neg (by omega)]; rfl
  have e12 : (10 : Nat) ^ 13 = 10000000000000 := by decide
  have hl := dd_len (u := n / 64) (k := 13) (by omega) (by omega)
  have q1 : Int.tdiv (n : Int) 64 = ((n / 64 : Nat) : Int) := by rw [Int.tdiv_eq_ediv_of_nonneg (by omega)]; omega
  have q2 : Int.tmod (n : Int) 64 = ((n % 64 : Nat) : Int) := by rw [Int.tmod_eq_emod_of_nonneg (by omega)]; omega
  have hp := fin_plc ⟨n % 64, Nat.mod_lt _ (by omega)⟩
  simp only at hp
  have h6 : (10 : Nat) ^ 6 = 1000000 := by decide
  have h64 : ∀ r, 10 ^ 6 * r % 64 = 0 := fun r => by rw [h6]; omega
  have hf0 : n % 64 = 0 → fracL (n % 64) = [] := fun h => by rw [h]; decide +kernel
  have hf1 : n % 64 ≠ 0 → fracL (n % 64) ≠ [] := fun h => by rw [← hp, plc, if_neg h]; simp
  refine Ev.step (f := fun k => (scrimref08_text.f k ((n / 64 : Nat) : Int)).bind fun t223 => if ((n % 64 : Nat) : Int) > 0 then (if t223.size + 1 ≤ 9223372036854775807 then scrimref08_decimal.j0 k (t223 ++ ⟨#[46]⟩) ((n % 64 : Nat) : Int) else none) else scrimref08_decimal.j0 k t223 ((n % 64 : Nat) : Int)) (fun k => by rw [scrimref08_decimal.f, if_neg (by omega), q1, q2, w64 (by omega) (by omega)]) ?_
  refine Ev.bind (rText _ _ (Nat.le_refl _) (by omega)) ?_
  by_cases hz : n % 64 = 0
  · simp only [if_neg (show ¬ ((n % 64 : Nat) : Int) > 0 by omega)]
    refine Ev.step (f := fun k => scrimref08_decimal.l0 k (ba (Lib.decDigits (n / 64))) ((n % 64 : Nat) : Int)) (fun k => by rw [scrimref08_decimal.j0]) ((rPlaces 6 (n % 64) _ (Nat.mod_lt _ (by omega)) (h64 _) (by omega)).eq ?_)
    rw [hdl, hp, if_pos (hf0 hz), hf0 hz]
  · simp only [if_pos (show ((n % 64 : Nat) : Int) > 0 by omega), if_pos (show (ba (Lib.decDigits (n / 64))).size + 1 ≤ 9223372036854775807 by rw [ba_sz]; omega)]
    have e46 : ba (Lib.decDigits (n / 64)) ++ ⟨#[46]⟩ = ba (Lib.decDigits (n / 64) ++ [46]) := ba_apd _ [46]
    simp only [e46]
    refine Ev.step (f := fun k => scrimref08_decimal.l0 k (ba (Lib.decDigits (n / 64) ++ [46])) ((n % 64 : Nat) : Int)) (fun k => by rw [scrimref08_decimal.j0]) ((rPlaces 6 (n % 64) _ (Nat.mod_lt _ (by omega)) (h64 _) (by simp; omega)).eq ?_)
    rw [hdl, hp, if_neg (hf1 hz), List.append_assoc]
    rfl
theorem rDecimal (n : Int) (h1 : -63999999999 ≤ n) (h2 : n ≤ 63999999999) : Ev (fun k => scrimref08_decimal.f k n) (ba (decL n)) := by
  by_cases h : n < 0
  · obtain ⟨m, rfl⟩ : ∃ m : Nat, n = -(m : Int) := ⟨n.natAbs, by omega⟩
    have hd := rDec0 m (by omega)
    have hlen := decL_len (m : Int) (by omega) (by omega)
    have e : decL (-(m : Int)) = 45 :: decL (m : Int) := by
      have hm : ¬ ((m : Int) < 0) := by omega
      rw [decL_eq (-(m : Int)), decL_eq (m : Int), if_pos h, if_neg hm]
      simp
    refine Ev.step (f := fun k => (scrimref08_decimal.f k (m : Int)).bind fun t222 => if 1 + t222.size ≤ 9223372036854775807 then some ((⟨#[45]⟩ : ByteArray) ++ t222) else none) (fun k => ?_) ?_
    · rw [scrimref08_decimal.f, if_pos h, Int.neg_neg, w64 (by omega) (by omega)]
    · refine Ev.bind hd ?_
      rw [if_pos (by rw [ba_sz]; omega)]
      refine (Ev.now _).eq ?_
      rw [e]
      exact ba_apd [45] _
  · obtain ⟨m, rfl⟩ : ∃ m : Nat, n = (m : Int) := ⟨n.toNat, by omega⟩
    exact rDec0 m (by omega)
end Go.Proofs.YtmfhhlgjbjbnhaaGreatDoor.Pure
set_option linter.unusedVariables false
set_option linter.unusedSimpArgs false
namespace Go.Proofs.YtmfhhlgjbjbnhaaGreatDoor.Pure
open Go.RowKit Go.Proofs.YtmfhhlgjbjbnhaaGreatDoor.HV Go.Proofs.YtmfhhlgjbjbnhaaGreatDoorW.PrintWords Go.Proofs.YtmfhhlgjbjbnhaaGreatDoorW.PrintLast Go.Proofs.Scn Go.Proofs.Val
theorem awake : scrimlaw08_awake.f = some true := by decide +kernel
theorem hex_dig : ∀ d : Fin 16, (⟨#[48, 49, 50, 51, 52, 53, 54, 55, 56, 57, 97, 98, 99, 100, 101, 102]⟩ : ByteArray).extract d.val (d.val + 1) = ⟨#[hexD d.val]⟩ := by decide +kernel
theorem rHexStep (k : Nat) (l : List UInt8) (n i : Nat) (hn : n < 16777216) (hl : l.length ≤ 100) (hi : i < 6) : scrimref08_Print.l0 (k + 1) (ba l) (n : Int) (i : Int) = scrimref08_Print.l0 k (ba (hexD (n % 16) :: l)) ((n / 16 : Nat) : Int) ((i + 1 : Nat) : Int) := by
  have q1 : Int.tdiv (n : Int) 16 = ((n / 16 : Nat) : Int) := by rw [Int.tdiv_eq_ediv_of_nonneg (by omega)]; omega
  have q2 : Int.tmod (n : Int) 16 = ((n % 16 : Nat) : Int) := by rw [Int.tmod_eq_emod_of_nonneg (by omega)]; omega
  have q3 : wrap64 (((n % 16 : Nat) : Int) + 1) = ((n % 16 + 1 : Nat) : Int) := by rw [w64 (by omega) (by omega)]; omega
  have hd := hex_dig ⟨n % 16, Nat.mod_lt _ (by omega)⟩
  simp only at hd
  rw [scrimref08_Print.l0, if_pos (by omega), q1, q2, q3, if_pos (by omega), if_pos (by omega), if_pos (by omega), Int.toNat_natCast, Int.toNat_natCast, hd, if_pos (by
    show 1 + (ba l).size ≤ _
    rw [ba_sz]; omega), w64 (n := ((n / 16 : Nat) : Int)) (by omega) (by omega), w64s i (by omega)]
  congr 1
theorem rHexAll (n : Nat) (hn : n < 16777216) : Ev (fun k => scrimref08_Print.l0 k ⟨#[]⟩ (n : Int) 0) (ba (35 :: hexL n)) := by
  have h5 : (16 : Nat) ^ 5 = 1048576 := by decide
  have h4 : (16 : Nat) ^ 4 = 65536 := by decide
  have h3 : (16 : Nat) ^ 3 = 4096 := by decide
  have h2 : (16 : Nat) ^ 2 = 256 := by decide
  refine Ev.step (fun k => rHexStep k [] n 0 hn (by simp) (by omega)) ?_
  refine Ev.step (fun k => rHexStep k _ (n / 16) 1 (by omega) (by simp) (by omega)) ?_
  refine Ev.step (fun k => rHexStep k _ (n / 16 / 16) 2 (by omega) (by simp) (by omega)) ?_
  refine Ev.step (fun k => rHexStep k _ (n / 16 / 16 / 16) 3 (by omega) (by simp) (by omega)) ?_
  refine Ev.step (fun k => rHexStep k _ (n / 16 / 16 / 16 / 16) 4 (by omega) (by simp) (by omega)) ?_
  refine Ev.step (fun k => rHexStep k _ (n / 16 / 16 / 16 / 16 / 16) 5 (by omega) (by simp) (by omega)) ?_
  refine Ev.step (f := fun k => some (ba (35 :: hexL n))) (fun k => ?_) (Ev.now _)
  rw [scrimref08_Print.l0, if_neg (by omega), if_pos (by rw [ba_sz]; simp)]
  congr 1
  refine (ba_apd [35] _).trans ?_
  unfold hexL
  rw [h5, h4, h3, h2, show n / 16 / 16 / 16 / 16 / 16 = n / 1048576 by omega, show n / 16 / 16 / 16 / 16 = n / 65536 by omega, show n / 16 / 16 / 16 = n / 4096 by omega, show n / 16 / 16 = n / 256 by omega]
  rfl
theorem rPrint (p k n : Int) : Ev (fun f => scrimref08_Print.f f p k n) (printV p k n) := by
  unfold scrimref08_Print.f
  simp only [rMay, Option.bind_some]
  by_cases hm : mayV (cl p) k n = true
  · have hP : printV p k n = ba (if k = 1 then autoW else if k = 4 then 35 :: hexL n.toNat else if k = 5 then ((wordsP (cl p)).getD n.toNat ByteArray.empty).data.toList
      else if k = 2 then decL n ++ [112, 120] else if k = 3 then decL n ++ [37] else decL n) := by unfold printV printL; rw [if_pos hm]; rfl
    have hlow := low_ge (cl p)
    simp only [hm, if_true]
    rcases may_kinds hm with ⟨rfl, rfl, ha⟩ | ⟨rfl, h1, h2, ha⟩ | ⟨rfl, h1, h2, ha⟩ | ⟨rfl, h1, h2, ha⟩ | ⟨rfl, h1, h2⟩ | ⟨rfl, h1, h2, ha⟩
    · exact (Ev.now _).eq (by rw [hP, if_pos rfl]; rfl)
    · have hl := decL_len n (by omega) h2
      simp only [if_neg (show ¬ (2 : Int) = 1 by omega), if_neg (show ¬ (2 : Int) = 5 by omega), if_true]
      refine Ev.bind (rDecimal n (by omega) h2) ?_
      simp only [if_pos (show (ba (decL n)).size + 2 ≤ 9223372036854775807 by rw [ba_sz]; omega)]
      refine (Ev.now _).eq ?_
      rw [hP, if_neg (by omega), if_neg (by omega), if_neg (by omega), if_pos rfl]
      exact ba_apd _ [112, 120]
    · have hl := decL_len n (by omega) h2
      simp only [if_neg (show ¬ (3 : Int) = 1 by omega), if_neg (show ¬ (3 : Int) = 5 by omega), if_neg (show ¬ (3 : Int) = 2 by omega), if_true]
      refine Ev.bind (rDecimal n (by omega) h2) ?_
      simp only [if_pos (show (ba (decL n)).size + 1 ≤ 9223372036854775807 by rw [ba_sz]; omega)]
      refine (Ev.now _).eq ?_
      rw [hP, if_neg (by omega), if_neg (by omega), if_neg (by omega), if_neg (by omega), if_pos rfl]
      exact ba_apd _ [37]
    · simp only [if_neg (show ¬ (4 : Int) = 1 by omega), if_neg (show ¬ (4 : Int) = 5 by omega), if_neg (show ¬ (4 : Int) = 2 by omega), if_neg (show ¬ (4 : Int) = 3 by omega), if_true]
      obtain ⟨m, rfl⟩ : ∃ m : Nat, n = (m : Int) := ⟨n.toNat, by omega⟩
      refine (rHexAll m (by omega)).eq ?_
      rw [hP, if_neg (by omega), if_pos rfl, Int.toNat_natCast]
    · simp only [if_neg (show ¬ (5 : Int) = 1 by omega), if_true, rWords, Option.bind_some]
      rw [wordsP_len _ (cl_le p)] at h2
      simp only [if_pos h1, if_pos h2]
      refine (Ev.now _).eq ?_
      rw [hP, if_neg (by omega), if_neg (by omega), if_pos rfl]
      refine ba_ext ?_
      rw [ba_data]
      rfl
    · simp only [if_neg (show ¬ (6 : Int) = 1 by omega), if_neg (show ¬ (6 : Int) = 5 by omega), if_neg (show ¬ (6 : Int) = 2 by omega), if_neg (show ¬ (6 : Int) = 3 by omega), if_neg (show ¬ (6 : Int) = 4 by omega)]
      refine Ev.bind (rDecimal n (by omega) h2) ((Ev.now _).eq ?_)
      rw [hP, if_neg (by omega), if_neg (by omega), if_neg (by omega), if_neg (by omega), if_neg (by omega)]
  · simp only [if_neg hm]
    refine (Ev.now _).eq ?_
    unfold printV printL
    rw [if_neg hm]
theorem ValueTells (a0 : Int) (a1 : ByteArray) (a2_0 a2_1 : Int) : ∃ k, scrimlaw08_ValueTells.f k a0 a1 a2_0 a2_1 = some true := by
  refine Ev.rounds (g := fun k => scrimlaw08_ValueTells.f k a0 a1 a2_0 a2_1) ?_
  unfold scrimlaw08_ValueTells.f
  simp only [awake, Option.bind_some, if_true]
  by_cases hs : (a1.size : Int) > 200
  · simp only [if_pos hs]; exact Ev.now _
  simp only [if_neg hs]
  have hr : value_Read.f a0 a1 = some ((readV a0 a1).1.1, (readV a0 a1).1.2, (readV a0 a1).2) := by unfold value_Read.f; rw [if_pos (by omega)]
  simp only [hr, Option.bind_some]
  refine Ev.bind (rRead a0 a1 (by omega)) ?_
  simp only [BEq.rfl, Bool.and_self, if_true]
  have hp : value_Prop.f a1 = some (propV a1) := rfl
  simp only [hp, Option.bind_some]
  refine Ev.bind (rProp a1) ?_
  have hn : value_Name.f a0 = some (nameP a0) := rfl
  have hm : value_May.f a0 a2_0 a2_1 = some (mayV (cl a0) a2_0 a2_1) := rfl
  have hpr : value_Print.f a0 a2_0 a2_1 = some (printV a0 a2_0 a2_1) := rfl
  have hf : value_First.f a0 = some (firstP a0) := rfl
  simp only [if_true, hn, rName, hm, rMay, hpr, Option.bind_some, BEq.rfl]
  refine Ev.bind (rPrint a0 a2_0 a2_1) ?_
  simp only [if_true, hf, Option.bind_some]
  refine Ev.bind (rFirst a0) ?_
  simp only [BEq.rfl, Bool.and_self, if_true]
  have hv : ∃ b, value_Passed.f a0 = some b ∧ scrimref08_Passed.f a0 = some b := by
    unfold value_Passed.f scrimref08_Passed.f
    split
    · exact ⟨_, rfl, rfl⟩
    split
    · exact ⟨_, rfl, rfl⟩
    · exact ⟨_, rfl, rfl⟩
  obtain ⟨b, hb1, hb2⟩ := hv
  simp only [hb1, hb2, Option.bind_some, BEq.rfl]
  exact Ev.now _
end Go.Proofs.YtmfhhlgjbjbnhaaGreatDoor.Pure
