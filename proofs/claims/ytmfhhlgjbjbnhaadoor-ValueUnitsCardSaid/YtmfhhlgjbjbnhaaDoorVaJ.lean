/- value.Print of any property and value: its contract, proved by walking its text; no condition beside those that the theorem states. -/
import Derived.Test.YtmfhhlgjbjbnhaaDoorVaI
set_option linter.unusedVariables false
set_option linter.unusedSimpArgs false
namespace Go.Proofs.Val
open Go.RowKit Go.Proofs Go.Proofs.YtmfhhlgjbjbnhaaDoorW.PrintWords
def printL (p : Nat) (k n : Int) : List UInt8 :=
  if mayV p k n = true then
    (if k = 1 then autoW else if k = 4 then 35 :: hexL n.toNat else if k = 5 then ((wordsP p).getD n.toNat ByteArray.empty).data.toList
      else if k = 2 then decL n ++ [112, 120] else if k = 3 then decL n ++ [37] else decL n)
  else []
def printV (p k n : Int) : ByteArray := ⟨(printL (cl p) k n).toArray⟩
theorem low_ge (p : Nat) : -63999999999 ≤ lowV p := by unfold lowV; split <;> omega
/-- what may be, by its kind -/
theorem may_kinds {p : Nat} {k n : Int} (h : mayV p k n = true) :
    (k = 1 ∧ n = 0 ∧ (rec0 p).auto = true) ∨ (k = 2 ∧ lowV p ≤ n ∧ n ≤ 63999999999 ∧ (rec0 p).length = true) ∨ (k = 3 ∧ 0 ≤ n ∧ n ≤ 63999999999 ∧ (rec0 p).part = true) ∨ (k = 4 ∧ 0 ≤ n ∧ n ≤ 16777215 ∧ (rec0 p).color = true) ∨ (k = 5 ∧ 0 ≤ n ∧ n < ((rec0 p).wn : Int)) ∨ (k = 6 ∧ lowV p ≤ n ∧ n ≤ 63999999999 ∧ (rec0 p).number = true) := by
  unfold mayV at h
  by_cases k1 : k = 1
  · rw [if_pos k1, Bool.and_eq_true, decide_eq_true_iff] at h; exact .inl ⟨k1, h.2, h.1⟩
  rw [if_neg k1] at h
  by_cases k2 : k = 2
  · rw [if_pos k2, Bool.and_eq_true, Bool.and_eq_true, decide_eq_true_iff, decide_eq_true_iff] at h; exact .inr (.inl ⟨k2, h.2.1, h.2.2, h.1⟩)
  rw [if_neg k2] at h
  by_cases k3 : k = 3
  · rw [if_pos k3, Bool.and_eq_true, Bool.and_eq_true, decide_eq_true_iff, decide_eq_true_iff] at h; exact .inr (.inr (.inl ⟨k3, h.2.1, h.2.2, h.1⟩))
  rw [if_neg k3] at h
  by_cases k4 : k = 4
  · rw [if_pos k4, Bool.and_eq_true, Bool.and_eq_true, decide_eq_true_iff, decide_eq_true_iff] at h; exact .inr (.inr (.inr (.inl ⟨k4, h.2.1, h.2.2, h.1⟩)))
  rw [if_neg k4] at h
  by_cases k5 : k = 5
  · rw [if_pos k5, Bool.and_eq_true, decide_eq_true_iff, decide_eq_true_iff] at h; exact .inr (.inr (.inr (.inr (.inl ⟨k5, h.1, h.2⟩))))
  rw [if_neg k5] at h
  by_cases k6 : k = 6
  · rw [if_pos k6, Bool.and_eq_true, Bool.and_eq_true, decide_eq_true_iff, decide_eq_true_iff] at h; exact .inr (.inr (.inr (.inr (.inr ⟨k6, h.2.1, h.2.2, h.1⟩))))
  rw [if_neg k6] at h
  cases h
set_option maxHeartbeats 4000000 in
set_option maxRecDepth 100000 in
theorem printC (p k n : Int) (w : World) (hT : Tbs w) :
    Calls Tryd.prog 14 #[.int .i64 p, .agg #[.int .i64 k, .int .i64 n]] w fun e w' => e = .returned (.string (printV p k n)) ∧ Below w.heap.size w w' := by
  have hM := fun w => mayP p k n w
  have HP := Lib.hid (show printV p k n = ⟨(if mayV (cl p) k n = true then
    (if k = 1 then autoW else if k = 4 then 35 :: hexL n.toNat else if k = 5 then ((wordsP (cl p)).getD n.toNat ByteArray.empty).data.toList
      else if k = 2 then decL n ++ [112, 120] else if k = 3 then decL n ++ [37] else decL n)
  else []).toArray⟩ from rfl)
  have p0 : Below w.heap.size w (w.alloc (.cells #[.int .i64 k, .int .i64 n] 23)) := (Below.refl _ _).alloc (Nat.le_refl _) _
  by_cases hm : mayV (cl p) k n = true
  · rw [if_pos hm] at HP
    rw [hm] at hM
    have hD := fun (h1 : -63999999999 ≤ n) (h2 : n ≤ 63999999999) w hT => decimalC n h1 h2 w hT
    have hw5 := wordsP_len (cl p) (cl_le p)
    rcases may_kinds hm with ⟨rfl, rfl, _⟩ | ⟨rfl, h1, h2, _⟩ | ⟨rfl, h1, h2, _⟩ | ⟨rfl, h1, h2, _⟩ | ⟨rfl, h1, h2⟩ | ⟨rfl, h1, h2, _⟩
    · have HK := Lib.hid (show printV p 1 0 = ⟨#[97, 117, 116, 111]⟩ from HP.out)
      clear HP hD hw5 hm
      go_enter Tryd.func14, Tryd.ntmps14
      go_wp2_with (go_at_call 16; refine (hM _).mono ?_; rintro e w1 ⟨rfl, hB1⟩; obtain ⟨hc, hf⟩ := bcell hB1; have hz : w.heap.size < w1.heap.size := (by have q := hB1.size; rw [alloc_size] at q; exact q))
      go_ret
      exact ⟨(show _ = Ending.returned (Value.string ⟨#[97, 117, 116, 111]⟩) from rfl).trans (by rw [HK.out]), p0.trans (hB1.mono p0.size)⟩
    · have q := low_ge (cl p)
      have hDD := hD (by omega) (by omega)
      have hl := decL_len n (by omega) (by omega)
      have hq : ((⟨(decL n).toArray⟩ : ByteArray) ++ ⟨#[112, 120]⟩) = ⟨(decL n ++ [112, 120]).toArray⟩ := ba_app (decL n) [112, 120]
      have hs := ba_size (decL n)
      have HK := Lib.hid (show printV p 2 n = ((⟨(decL n).toArray⟩ : ByteArray) ++ ⟨#[112, 120]⟩) by rw [hq]; exact HP.out)
      have hk : (⟨(decL n).toArray⟩ : ByteArray).size + (⟨#[112, 120]⟩ : ByteArray).size ≤ 9223372036854775807 := by rw [hs]; show _ + 2 ≤ _; omega
      generalize (⟨(decL n).toArray⟩ : ByteArray) = D at hDD hk HK
      clear HP hD hw5 hm hq hs hl q
      go_enter Tryd.func14, Tryd.ntmps14
      go_wp2_with (first | (go_at_call 16; refine (hM _).mono ?_; rintro e w1 ⟨rfl, hB1⟩; obtain ⟨hc, hf⟩ := bcell hB1; have hz : w.heap.size < w1.heap.size := (by have q := hB1.size; rw [alloc_size] at q; exact q)) | (go_at_call 32; refine (hDD _ (hT.below (p0.trans (hB1.mono p0.size)))).mono ?_; rintro e w2 ⟨rfl, hB2⟩))
      go_ret
      exact ⟨(show _ = Ending.returned (Value.string (D ++ ⟨#[112, 120]⟩)) from rfl).trans (by rw [HK.out]), below_then (p0.trans (hB1.mono p0.size)) (p0.trans (hB1.mono p0.size)).size hB2⟩
    · have q := low_ge (cl p)
      have hDD := hD (by omega) (by omega)
      have hl := decL_len n (by omega) (by omega)
      have hq : ((⟨(decL n).toArray⟩ : ByteArray) ++ ⟨#[37]⟩) = ⟨(decL n ++ [37]).toArray⟩ := ba_app (decL n) [37]
      have hs := ba_size (decL n)
      have HK := Lib.hid (show printV p 3 n = ((⟨(decL n).toArray⟩ : ByteArray) ++ ⟨#[37]⟩) by rw [hq]; exact HP.out)
      have hk : (⟨(decL n).toArray⟩ : ByteArray).size + (⟨#[37]⟩ : ByteArray).size ≤ 9223372036854775807 := by rw [hs]; show _ + 1 ≤ _; omega
      generalize (⟨(decL n).toArray⟩ : ByteArray) = D at hDD hk HK
      clear HP hD hw5 hm hq hs hl q
      go_enter Tryd.func14, Tryd.ntmps14
      go_wp2_with (first | (go_at_call 16; refine (hM _).mono ?_; rintro e w1 ⟨rfl, hB1⟩; obtain ⟨hc, hf⟩ := bcell hB1; have hz : w.heap.size < w1.heap.size := (by have q := hB1.size; rw [alloc_size] at q; exact q)) | (go_at_call 32; refine (hDD _ (hT.below (p0.trans (hB1.mono p0.size)))).mono ?_; rintro e w2 ⟨rfl, hB2⟩))
      go_ret
      exact ⟨(show _ = Ending.returned (Value.string (D ++ ⟨#[37]⟩)) from rfl).trans (by rw [HK.out]), below_then (p0.trans (hB1.mono p0.size)) (p0.trans (hB1.mono p0.size)).size hB2⟩
    · obtain ⟨u, rfl⟩ : ∃ u : Nat, n = (u : Int) := ⟨n.toNat, by omega⟩
      have hF := fun w hT => fmt16 u (by omega) w hT
      have ex : (⟨(49 :: hexL u).toArray⟩ : ByteArray).extract 1 (⟨(49 :: hexL u).toArray⟩ : ByteArray).size = ⟨(hexL u).toArray⟩ := by
        rw [Lib.extract_mk]
        congr 2
      have HK := Lib.hid (show printV p 4 (u : Int) = (⟨#[35]⟩ : ByteArray) ++ ((⟨(49 :: hexL u).toArray⟩ : ByteArray).extract 1 (⟨(49 :: hexL u).toArray⟩ : ByteArray).size) by rw [ex]; exact HP.out.trans (ba_app [35] (hexL u)).symm)
      have hz7 : (⟨(49 :: hexL u).toArray⟩ : ByteArray).size = 7 := rfl
      have e1 : ((16777216 + u : Nat) : Int) = 16777216 + (u : Int) := by omega
      rw [e1] at hF
      generalize (⟨(49 :: hexL u).toArray⟩ : ByteArray) = D at hF hz7 HK
      have hz1 : 1 ≤ D.size ∧ D.size ≤ 7 := by omega
      have hk : (⟨#[35]⟩ : ByteArray).size + (D.extract 1 D.size).size ≤ 9223372036854775807 := by rw [ByteArray.size_extract]; show 1 + _ ≤ _; omega
      clear HP hD hw5 hm ex hz7 e1
      go_enter Tryd.func14, Tryd.ntmps14
      go_wp2_with (first | (go_at_call 16; refine (hM _).mono ?_; rintro e w1 ⟨rfl, hB1⟩; obtain ⟨hc, hf⟩ := bcell hB1; have hz : w.heap.size < w1.heap.size := (by have q := hB1.size; rw [alloc_size] at q; exact q)) | (go_at_call 30; refine (hF _ (hT.below (p0.trans (hB1.mono p0.size)))).mono ?_; rintro e w2 ⟨rfl, hB2⟩))
      go_ret
      exact ⟨(show _ = Ending.returned (Value.string ((⟨#[35]⟩ : ByteArray) ++ D.extract 1 D.size)) from rfl).trans (by rw [HK.out]), below_then (p0.trans (hB1.mono p0.size)) (p0.trans (hB1.mono p0.size)).size hB2⟩
    · obtain ⟨u, rfl⟩ : ∃ u : Nat, n = (u : Int) := ⟨n.toNat, by omega⟩
      rw [hw5] at h2
      have hO := fun w => ofP p w
      have hul : u < (wordsP (cl p)).length := by omega
      have HK := Lib.hid (show printV p 5 (u : Int) = (wordsP (cl p)).getD u ByteArray.empty from HP.out.trans (by show (⟨((wordsP (cl p)).getD ((u : Int)).toNat ByteArray.empty).data.toList.toArray⟩ : ByteArray) = _; rw [Int.toNat_natCast]))
      have hW : ∀ w wa, WordsIn w wa (wordsP (cl p)) → ∃ b, wa = some ⟨b, 0, none⟩ ∧ w.cell? ⟨b, 0 + u, none⟩ = some (.string ((wordsP (cl p)).getD u ByteArray.empty)) := by
        intro w wa h
        rcases h.at_ with h | ⟨b, e, h⟩
        · rw [h] at hul; cases hul
        · exact ⟨b, e, h u hul⟩
      have hWL := wordsP_le (cl p)
      have hrec : ∀ wa, recV (recA (cl p) wa) = .agg #[.string (rec0 (cl p)).name, .bool (rec0 (cl p)).auto, .bool (rec0 (cl p)).length, .bool (rec0 (cl p)).part, .bool (rec0 (cl p)).below, .bool (rec0 (cl p)).color, .bool (rec0 (cl p)).number, .slice wa (wordsP (cl p)).length (wordsP (cl p)).length, .int .i64 (rec0 (cl p)).k, .int .i64 (rec0 (cl p)).n] := by
        intro wa
        rw [← hw5]
        rfl
      simp only [hrec] at hO
      generalize (wordsP (cl p)).getD u ByteArray.empty = D at hW HK
      generalize (rec0 (cl p)).name = nm at hO
      generalize (rec0 (cl p)).auto = au at hO
      generalize (rec0 (cl p)).length = le at hO
      generalize (rec0 (cl p)).part = pa at hO
      generalize (rec0 (cl p)).below = be at hO
      generalize (rec0 (cl p)).color = co at hO
      generalize (rec0 (cl p)).number = nu at hO
      generalize (rec0 (cl p)).k = kk at hO
      generalize (rec0 (cl p)).n = nn at hO
      have HW := Lib.hid hW
      have g1 : (u : Int) < ((wordsP (cl p)).length : Int) := by omega
      clear HP hD hw5 hm hrec hW h1 h2
      go_enter Tryd.func14, Tryd.ntmps14
      go_wp2_with (first | (go_at_call 16; refine (hM _).mono ?_; rintro e w1 ⟨rfl, hB1⟩; obtain ⟨hc, hf⟩ := bcell hB1; have hz : w.heap.size < w1.heap.size := (by have q := hB1.size; rw [alloc_size] at q; exact q)) | (go_at_call 31; refine (hO _).mono ?_; rintro e w2 ⟨wa, rfl, hS, hB2⟩; obtain ⟨b, rfl, hcl⟩ := HW.out w2 wa hS; clear hS; rw [Nat.zero_add] at hcl; obtain ⟨hc2, hf2⟩ := bcell hB2; have hz2 : w.heap.size < w2.heap.size := (by have q := hB2.size; omega); have hbl := World.block_lt_of_cell? _ _ hcl))
      go_ret
      exact ⟨(show _ = Ending.returned (Value.string D) from rfl).trans (by rw [HK.out]), below_alloc (below_then (p0.trans (hB1.mono p0.size)) (p0.trans (hB1.mono p0.size)).size hB2) _⟩
    · have q := low_ge (cl p)
      have hDD := hD (by omega) (by omega)
      have HK := Lib.hid (show printV p 6 n = (⟨(decL n).toArray⟩ : ByteArray) from HP.out)
      generalize (⟨(decL n).toArray⟩ : ByteArray) = D at hDD HK
      clear HP hD hw5 hm q
      go_enter Tryd.func14, Tryd.ntmps14
      go_wp2_with (first | (go_at_call 16; refine (hM _).mono ?_; rintro e w1 ⟨rfl, hB1⟩; obtain ⟨hc, hf⟩ := bcell hB1; have hz : w.heap.size < w1.heap.size := (by have q := hB1.size; rw [alloc_size] at q; exact q)) | (go_at_call 32; refine (hDD _ (hT.below (p0.trans (hB1.mono p0.size)))).mono ?_; rintro e w2 ⟨rfl, hB2⟩))
      go_ret
      exact ⟨(show _ = Ending.returned (Value.string D) from rfl).trans (by rw [HK.out]), below_then (p0.trans (hB1.mono p0.size)) (p0.trans (hB1.mono p0.size)).size hB2⟩
  · rw [if_neg hm] at HP
    rw [Bool.eq_false_iff.2 hm] at hM
    clear hm
    go_enter Tryd.func14, Tryd.ntmps14
    go_wp2_with (go_at_call 16; refine (hM _).mono ?_; rintro e w1 ⟨rfl, hB1⟩)
    go_ret
    exact ⟨(show _ = Ending.returned (Value.string ⟨#[]⟩) from rfl).trans (by rw [HP.out]), p0.trans (hB1.mono p0.size)⟩
end Go.Proofs.Val
