/- Plain laws of values: what is printed is read as what it was; no program in sight; no condition beside those that each theorem states. -/
import Derived.Test.YtmfhhlgjbjbnhaaGreatDoorVaJ
set_option linter.unusedVariables false
set_option linter.unusedSimpArgs false
namespace Go.Proofs.Val
open Go
theorem dw_id {p : UInt8 → Bool} : ∀ {l : List UInt8}, (∀ c ∈ l, p c = false) → l.dropWhile p = l
  | [], _ => rfl
  | c :: l, h => by
    have := h c (by simp)
    simp [List.dropWhile, this]
def plainB (c : UInt8) : Bool := !(decide (65 ≤ c.toNat) && decide (c.toNat ≤ 90)) && !(([32, 9, 10, 13] : List UInt8).contains c)
theorem plain_id {t : List UInt8} (h : ∀ c ∈ t, plainB c = true) : (Scn.lowV (Scn.trimV ⟨t.toArray⟩)).data.toList = t := by
  have h1 : ∀ c ∈ t, ([32, 9, 10, 13] : List UInt8).contains c = false := fun c hc => by
    have := h c hc
    simp only [plainB, Bool.and_eq_true, Bool.not_eq_true'] at this
    exact this.2
  have h2 : t.map Scn.lowB = t := by
    have : t.map Scn.lowB = t.map id := List.map_congr_left fun c hc => by
      have := h c hc
      simp only [plainB, Bool.and_eq_true, Bool.not_eq_true', Bool.and_eq_false_iff, decide_eq_false_iff_not] at this
      unfold Scn.lowB
      rw [if_neg (by rintro ⟨a, b⟩; rcases this.1 with h | h <;> contradiction)]
      rfl
    rw [this, List.map_id]
  show ((Lib.trimS t [32, 9, 10, 13]).map Scn.lowB) = t
  have e : Lib.trimS t [32, 9, 10, 13] = t := by
    unfold Lib.trimS Lib.trimLeftS Lib.trimRightS
    rw [dw_id (l := t.reverse) (fun c hc => h1 c (List.mem_reverse.1 hc)), List.reverse_reverse, dw_id h1]
  rw [e, h2]
theorem plain_dig {c : UInt8} (h : isDig c = true) : plainB c = true := by
  have : ∀ i : Fin 10, plainB (UInt8.ofNat (48 + i.val)) = true := by decide +kernel
  rw [isDig_iff] at h
  have hc := this ⟨c.toNat - 48, by omega⟩
  have e : UInt8.ofNat (48 + (c.toNat - 48)) = c := by rw [show 48 + (c.toNat - 48) = c.toNat by omega]; simp
  rwa [e] at hc
theorem plain_decL (n : Int) : ∀ c ∈ decL n, plainB c = true := fun c hc => by
  rcases decL_in n c hc with rfl | rfl | h
  · decide
  · decide
  · exact plain_dig h
theorem fin_kinds : ∀ p : Fin 27, ((rec0 p.val).length = true → (wordsP p.val).length = 0 ∧ (rec0 p.val).color = false) ∧ ((rec0 p.val).part = true → (wordsP p.val).length = 0 ∧ (rec0 p.val).color = false) ∧
    ((rec0 p.val).color = true → (wordsP p.val).length = 0 ∧ (rec0 p.val).auto = false ∧ (rec0 p.val).length = false) ∧
    ((rec0 p.val).number = true → (wordsP p.val).length = 0 ∧ (rec0 p.val).auto = false ∧ (rec0 p.val).length = false ∧ (rec0 p.val).color = false ∧ (rec0 p.val).part = false) := by decide +kernel
theorem fin_auto : ∀ p : Fin 27, (rec0 p.val).auto = true → anyP p.val autoW = ((1, 0), true) := by decide +kernel
theorem fin_words : ∀ p : Fin 27, ∀ i : Fin 4, i.val < (wordsP p.val).length → anyP p.val ((wordsP p.val).getD i.val ByteArray.empty).data.toList = ((5, (i.val : Int)), true) ∧ (∀ c ∈ ((wordsP p.val).getD i.val ByteArray.empty).data.toList, plainB c = true) := by decide +kernel
theorem fin_empty : ∀ p : Fin 27, (readL p.val []).2 = false := by decide +kernel
theorem nil_of {ws : List ByteArray} (h : ws.length = 0) : ws = [] := List.length_eq_zero_iff.1 h
theorem idx_nil (x : ByteArray) : ¬ 0 ≤ Lib.idxOfS [] x := by simp [Lib.idxOfS, Lib.idxFromS]
theorem suf_app (l s : List UInt8) : Lib.hasSuffix (l ++ s) s = true ∧ Lib.trimSuffix (l ++ s) s = l := by
  have h : Lib.hasSuffix (l ++ s) s = true := by unfold Lib.hasSuffix; rw [List.isSuffixOf_iff_suffix]; exact ⟨l, rfl⟩
  exact ⟨h, by unfold Lib.trimSuffix; rw [if_pos h]; simp⟩
theorem meas_app (l s : List UInt8) (k : Int) (h : numOk l = true) : measOk (l ++ s) s = true ∧ measV (l ++ s) s k = (k, numN l) := by
  have hm : measOk (l ++ s) s = true := by unfold measOk; rw [(suf_app l s).1, (suf_app l s).2, h]; rfl
  exact ⟨hm, by unfold measV; rw [if_pos hm, (suf_app l s).2]⟩
theorem suf_last {l s : List UInt8} {c d : UInt8} (h : c ≠ d) : Lib.hasSuffix (l ++ [c]) (s ++ [d]) = false := by
  unfold Lib.hasSuffix
  rw [Bool.eq_false_iff, Ne, List.isSuffixOf_iff_suffix]
  rintro ⟨t, ht⟩
  have := congrArg List.getLast? ht
  simp at this
  exact h this.symm
theorem hexD_hex {v : Nat} (h : v < 16) : isHex (hexD v) = true ∧ hx (hexD v) = v ∧ plainB (hexD v) = true := by
  have : ∀ i : Fin 16, isHex (hexD i.val) = true ∧ hx (hexD i.val) = i.val ∧ plainB (hexD i.val) = true := by decide +kernel
  exact this ⟨v, h⟩
theorem hexL_val {n : Nat} (h : n < 16777216) : (hexL n).all isHex = true ∧ (hexL n).length = 6 ∧ hexV 0 (hexL n) = n ∧ ∀ c ∈ hexL n, plainB c = true := by
  have q := fun m => hexD_hex (v := m % 16) (by omega)
  refine ⟨?_, rfl, ?_, ?_⟩
  · simp [hexL, (q _).1]
  · have h5 : (16 : Nat) ^ 5 = 1048576 := by decide
    have h4 : (16 : Nat) ^ 4 = 65536 := by decide
    have h3 : (16 : Nat) ^ 3 = 4096 := by decide
    have h2 : (16 : Nat) ^ 2 = 256 := by decide
    unfold hexV hexL
    simp only [List.foldl_cons, List.foldl_nil, (q _).2.1, h2, h3, h4, h5]
    omega
  · intro c hc
    simp only [hexL, List.mem_cons, List.mem_nil_iff, or_false] at hc
    rcases hc with rfl | rfl | rfl | rfl | rfl | rfl <;> exact (q _).2.2
theorem decL_ne (n : Int) (s m : List UInt8) (hm : ∀ c t, m = c :: t → c ≠ 45 ∧ isDig c = false) (h0 : m ≠ []) : decL n ++ s ≠ m := by
  obtain ⟨c, t, hc, hd⟩ := decL_front n
  intro e
  rw [hc, List.cons_append] at e
  obtain ⟨h1, h2⟩ := hm c (t ++ s) e.symm
  rcases hd with rfl | hd
  · exact h1 rfl
  · rw [hd] at h2; cases h2
/-- WHAT IS PRINTED IS READ AS WHAT IT WAS -/
theorem back_any (p : Nat) (hp : p < 27) (k n : Int) (h : mayV p k n = true) : anyP p (printL p k n) = ((k, n), true) ∧ ∀ c ∈ printL p k n, plainB c = true := by
  obtain ⟨fl, fp, fc, fn⟩ := fin_kinds ⟨p, hp⟩
  simp only at fl fp fc fn
  have hlow := low_ge p
  have hP : printL p k n = (if k = 1 then autoW else if k = 4 then 35 :: hexL n.toNat else if k = 5 then ((wordsP p).getD n.toNat ByteArray.empty).data.toList
      else if k = 2 then decL n ++ [112, 120] else if k = 3 then decL n ++ [37] else decL n) := by unfold printL; rw [if_pos h]
  rcases may_kinds h with ⟨rfl, rfl, ha⟩ | ⟨rfl, h1, h2, ha⟩ | ⟨rfl, h1, h2, ha⟩ | ⟨rfl, h1, h2, ha⟩ | ⟨rfl, h1, h2⟩ | ⟨rfl, h1, h2, ha⟩
  · rw [if_pos rfl] at hP
    rw [hP]
    exact ⟨fin_auto ⟨p, hp⟩ ha, by decide⟩
  · rw [if_neg (by omega), if_neg (by omega), if_neg (by omega), if_pos rfl] at hP
    obtain ⟨r1, r2⟩ := decL_read n (by omega) h2
    obtain ⟨m1, m2⟩ := meas_app (decL n) [112, 120] 2 r1
    rw [hP]
    refine ⟨?_, fun c hc => ?_⟩
    · unfold anyP anyR
      rw [nil_of (fl ha).1, if_neg (idx_nil _), (fl ha).2, if_neg (by rw [decide_eq_false (decL_ne n _ _ (by intro c t e; cases e; decide) (by decide))]; simp), if_neg, if_neg (by simp), if_pos (by rw [ha, m1]; rfl), m2, r2]
      rw [decide_eq_false, Bool.and_false]
      · simp
      · intro e
        have := congrArg List.getLast? e
        simp at this
    · rcases List.mem_append.1 hc with hc | hc
      · exact plain_decL n c hc
      · simp at hc; rcases hc with rfl | rfl <;> decide
  · rw [if_neg (by omega), if_neg (by omega), if_neg (by omega), if_neg (by omega), if_pos rfl] at hP
    obtain ⟨r1, r2⟩ := decL_read n (by omega) h2
    obtain ⟨m1, m2⟩ := meas_app (decL n) [37] 3 r1
    have hx : measOk (decL n ++ [37]) [112, 120] = false := by
      unfold measOk
      rw [show ([112, 120] : List UInt8) = [112] ++ [120] from rfl, suf_last (by decide)]; rfl
    rw [hP]
    refine ⟨?_, fun c hc => ?_⟩
    · unfold anyP anyR
      rw [nil_of (fp ha).1, if_neg (idx_nil _), (fp ha).2, if_neg (by rw [decide_eq_false (decL_ne n _ _ (by intro c t e; cases e; decide) (by decide))]; simp), if_neg, if_neg (by simp), if_neg (by rw [hx]; simp), if_pos ha, m1, m2, r2]
      rw [decide_eq_false, Bool.and_false]
      · simp
      · intro e
        have := congrArg List.getLast? e
        simp at this
    · rcases List.mem_append.1 hc with hc | hc
      · exact plain_decL n c hc
      · simp at hc; subst hc; decide
  · rw [if_neg (by omega), if_pos rfl] at hP
    obtain ⟨m, rfl⟩ : ∃ m : Nat, n = (m : Int) := ⟨n.toNat, by omega⟩
    rw [Int.toNat_natCast] at hP
    obtain ⟨q1, q2, q3, q4⟩ := hexL_val (n := m) (by omega)
    have hpre : Lib.hasPrefix (35 :: hexL m) [35] = true := by simp [Lib.hasPrefix, List.isPrefixOf]
    have htr : Lib.trimPrefix (35 :: hexL m) [35] = hexL m := by unfold Lib.trimPrefix; rw [if_pos hpre]; rfl
    have hok : hexOk (35 :: hexL m) = true := by unfold hexOk; rw [hpre, htr, q1, q2]; rfl
    have hnam : namC (35 :: hexL m) = none := by
      unfold namC
      rw [if_neg (by intro e; cases e), if_neg (by intro e; cases e), if_neg (by intro e; cases e), if_neg (by intro e; cases e), if_neg (by intro e; cases e)]
    rw [hP]
    refine ⟨?_, fun c hc => ?_⟩
    · unfold anyP anyR
      rw [nil_of (fc ha).1, if_neg (idx_nil _), (fc ha).2.1, (fc ha).2.2, if_neg (by simp), if_neg (by simp), if_pos ha]
      unfold colN colOk
      rw [hnam, hok, htr, q3]
      rfl
    · rcases List.mem_cons.1 hc with rfl | hc
      · decide
      · exact q4 c hc
  · rw [if_neg (by omega), if_neg (by omega), if_pos rfl] at hP
    obtain ⟨m, rfl⟩ : ∃ m : Nat, n = (m : Int) := ⟨n.toNat, by omega⟩
    rw [Int.toNat_natCast] at hP
    rw [wordsP_len p (by omega)] at h2
    have := wordsP_le p
    rw [hP]
    exact fin_words ⟨p, hp⟩ ⟨m, by omega⟩ (by show m < (wordsP p).length; omega)
  · rw [if_neg (by omega), if_neg (by omega), if_neg (by omega), if_neg (by omega), if_neg (by omega)] at hP
    obtain ⟨r1, r2⟩ := decL_read n (by omega) h2
    obtain ⟨m1, m2⟩ := meas_app (decL n) [] 6 r1
    rw [List.append_nil] at m1 m2
    rw [hP]
    obtain ⟨a1, a2, a3, a4, a5⟩ := fn ha
    refine ⟨?_, plain_decL n⟩
    unfold anyP anyR
    rw [nil_of a1, if_neg (idx_nil _), a2, a3, a4, a5, if_neg (by simp), if_neg (by simp), if_neg (by simp), if_neg (by simp), if_neg (by simp), if_pos ha, m1, m2, r2]
theorem cl_lt (p : Int) : cl p < 27 := by have := cl_le p; omega
theorem back_read (p k n : Int) (h : mayV (cl p) k n = true) : readV p (printV p k n) = ((k, n), true) := by
  obtain ⟨h1, h2⟩ := back_any (cl p) (cl_lt p) k n h
  unfold readV printV readL
  rw [plain_id h2, h1]
  simp only
  rw [h]
  rfl
theorem back_not (p k n : Int) (h : mayV (cl p) k n = false) : printV p k n = ⟨#[]⟩ ∧ (readV p ⟨#[]⟩).2 = false := by
  refine ⟨?_, ?_⟩
  · unfold printV printL
    rw [if_neg (by rw [h]; simp)]
  · exact fin_empty ⟨cl p, cl_lt p⟩
theorem read_yes {p : Int} {s : ByteArray} (h : (readV p s).2 = true) : mayV (cl p) (readV p s).1.1 (readV p s).1.2 = true := by
  unfold readV readL at h ⊢
  split at h
  · rename_i hc
    rw [if_pos hc]
    rw [Bool.and_eq_true] at hc
    exact hc.2
  · cases h
theorem read_no {p : Int} {s : ByteArray} (h : (readV p s).2 = false) : (readV p s).1 = (0, 0) := by
  unfold readV readL at h ⊢
  split at h
  · cases h
  · rename_i hc
    rw [if_neg hc]
theorem print_size (p k n : Int) : (printV p k n).size < 4294967281 := by
  show (printL (cl p) k n).length < _
  by_cases h : mayV (cl p) k n = true
  · have hlow := low_ge (cl p)
    have hP : printL (cl p) k n = (if k = 1 then autoW else if k = 4 then 35 :: hexL n.toNat else if k = 5 then ((wordsP (cl p)).getD n.toNat ByteArray.empty).data.toList
      else if k = 2 then decL n ++ [112, 120] else if k = 3 then decL n ++ [37] else decL n) := by unfold printL; rw [if_pos h]
    have fw : ∀ p : Fin 27, ∀ i : Fin 4, ((wordsP p.val).getD i.val ByteArray.empty).data.toList.length < 4294967281 := by decide +kernel
    rcases may_kinds h with ⟨rfl, rfl, ha⟩ | ⟨rfl, h1, h2, ha⟩ | ⟨rfl, h1, h2, ha⟩ | ⟨rfl, h1, h2, ha⟩ | ⟨rfl, h1, h2⟩ | ⟨rfl, h1, h2, ha⟩
    · rw [if_pos rfl] at hP; rw [hP]; decide
    · have := decL_len n (by omega) h2
      rw [if_neg (by omega), if_neg (by omega), if_neg (by omega), if_pos rfl] at hP; rw [hP, List.length_append]; simp; omega
    · have := decL_len n (by omega) h2
      rw [if_neg (by omega), if_neg (by omega), if_neg (by omega), if_neg (by omega), if_pos rfl] at hP; rw [hP, List.length_append]; simp; omega
    · rw [if_neg (by omega), if_pos rfl] at hP; rw [hP]; simp [hexL]
    · rw [if_neg (by omega), if_neg (by omega), if_pos rfl] at hP
      rw [wordsP_len _ (cl_le p)] at h2
      have := wordsP_le (cl p)
      rw [hP]
      exact fw ⟨cl p, cl_lt p⟩ ⟨n.toNat, by omega⟩
    · have := decL_len n (by omega) h2
      rw [if_neg (by omega), if_neg (by omega), if_neg (by omega), if_neg (by omega), if_neg (by omega)] at hP; rw [hP]; omega
  · unfold printL; rw [if_neg h]; decide
end Go.Proofs.Val
set_option linter.unusedVariables false
set_option linter.unusedSimpArgs false
namespace Go.Proofs.Val
open Go
theorem front_ne (l s m : List UInt8) (hf : ∃ c t, l = c :: t ∧ (c = 45 ∨ isDig c = true)) (hm : ∀ c t, m = c :: t → c ≠ 45 ∧ isDig c = false) (h0 : m ≠ []) : l ++ s ≠ m := by
  obtain ⟨c, t, hc, hd⟩ := hf
  intro e
  rw [hc, List.cons_append] at e
  obtain ⟨h1, h2⟩ := hm c (t ++ s) e.symm
  rcases hd with rfl | hd
  · exact h1 rfl
  · rw [hd] at h2; cases h2
theorem any_len (p : Nat) (hp : p < 27) (ha : (rec0 p).length = true) (l : List UInt8) (hf : ∃ c t, l = c :: t ∧ (c = 45 ∨ isDig c = true)) (r1 : numOk l = true) : anyP p (l ++ [112, 120]) = ((2, numN l), true) := by
  obtain ⟨fl, -, -, -⟩ := fin_kinds ⟨p, hp⟩
  simp only at fl
  obtain ⟨m1, m2⟩ := meas_app l [112, 120] 2 r1
  unfold anyP anyR
  rw [nil_of (fl ha).1, if_neg (idx_nil _), (fl ha).2, if_neg (by rw [decide_eq_false (front_ne l _ _ hf (by intro c t e; cases e; decide) (by decide))]; simp), if_neg, if_neg (by simp), if_pos (by rw [ha, m1]; rfl), m2]
  rw [decide_eq_false, Bool.and_false]
  · simp
  · intro e
    have := congrArg List.getLast? e
    simp at this
theorem any_part (p : Nat) (hp : p < 27) (ha : (rec0 p).part = true) (l : List UInt8) (hf : ∃ c t, l = c :: t ∧ (c = 45 ∨ isDig c = true)) (r1 : numOk l = true) : anyP p (l ++ [37]) = ((3, numN l), true) := by
  obtain ⟨-, fp, -, -⟩ := fin_kinds ⟨p, hp⟩
  simp only at fp
  obtain ⟨m1, m2⟩ := meas_app l [37] 3 r1
  have hx : measOk (l ++ [37]) [112, 120] = false := by
    unfold measOk
    rw [show ([112, 120] : List UInt8) = [112] ++ [120] from rfl, suf_last (by decide)]; rfl
  unfold anyP anyR
  rw [nil_of (fp ha).1, if_neg (idx_nil _), (fp ha).2, if_neg (by rw [decide_eq_false (front_ne l _ _ hf (by intro c t e; cases e; decide) (by decide))]; simp), if_neg, if_neg (by simp), if_neg (by rw [hx]; simp), if_pos ha, m1, m2]
  rw [decide_eq_false, Bool.and_false]
  · simp
  · intro e
    have := congrArg List.getLast? e
    simp at this
def quarL (q : Nat) : List UInt8 := if q = 0 then [] else if q = 1 then [46, 50, 53] else if q = 2 then [46, 53, 48] else [46, 55, 53]
def quarP (q : Nat) : List UInt8 := (quarL q).drop 1
theorem quar_eq (q : Nat) (h : q < 4) : quarL q = (if quarP q = [] then [] else 46 :: quarP q) ∧ (quarP q = [] ∨ digB (quarP q) 6 = true) ∧ (sixV (quarP q) : Int) * 64 / 1000000 = (q : Int) * 16 := by
  have : ∀ i : Fin 4, quarL i.val = (if quarP i.val = [] then [] else 46 :: quarP i.val) ∧ (quarP i.val = [] ∨ digB (quarP i.val) 6 = true) ∧ (sixV (quarP i.val) : Int) * 64 / 1000000 = (i.val : Int) * 16 := by decide +kernel
  exact this ⟨q, h⟩
theorem plain_quar (q : Nat) : ∀ c ∈ quarL q, plainB c = true := by
  unfold quarL
  split
  · simp
  split
  · decide
  split <;> decide
/-- A NUMBER THAT IS TOLD BY WHOLE PIXELS IS SO MANY UNITS -/
theorem units (t : List UInt8) (ht : digB t 9 = true) (q : Nat) (hq : q < 4) (b : Bool) :
    numOk ((if b = true then [45] else []) ++ t ++ quarL q) = true ∧ numN ((if b = true then [45] else []) ++ t ++ quarL q) = (if b = true then -((decV 0 t : Int) * 64 + (q : Int) * 16) else (decV 0 t : Int) * 64 + (q : Int) * 16) ∧
      (∃ c u, (if b = true then [45] else []) ++ t ++ quarL q = c :: u ∧ (c = 45 ∨ isDig c = true)) ∧ ∀ c ∈ (if b = true then [45] else []) ++ t ++ quarL q, plainB c = true := by
  obtain ⟨q1, q2, q3⟩ := quar_eq q hq
  have h := num_text b ht q2
  rw [← q1, q3] at h
  obtain ⟨t1, t2, t3⟩ := digB_iff.1 ht
  obtain ⟨c, u, rfl⟩ := List.exists_cons_of_ne_nil t1
  refine ⟨h.1, h.2, ?_, fun d hd => ?_⟩
  · cases b
    · exact ⟨c, u ++ quarL q, by simp, .inr (by simp at t3; exact t3.1)⟩
    · exact ⟨45, _, rfl, .inl rfl⟩
  · rcases List.mem_append.1 hd with hd | hd
    · rcases List.mem_append.1 hd with hd | hd
      · cases b
        · cases hd
        · simp at hd; subst hd; decide
      · exact plain_dig (List.all_eq_true.1 t3 d hd)
    · exact plain_quar q d hd
theorem px_read (t : List UInt8) (ht : digB t 9 = true) (q : Nat) (hq : q < 4) (b : Bool) :
    readV 25 ⟨((if b = true then [45] else []) ++ t ++ quarL q ++ [112, 120]).toArray⟩ = ((2, if b = true then -((decV 0 t : Int) * 64 + (q : Int) * 16) else (decV 0 t : Int) * 64 + (q : Int) * 16), true) := by
  obtain ⟨u1, u2, u3, u4⟩ := units t ht q hq b
  have hlt := decV_lt9 ht
  unfold readV readL
  rw [plain_id (by intro c hc; rcases List.mem_append.1 hc with hc | hc
                   · exact u4 c hc
                   · simp at hc; rcases hc with rfl | rfl <;> decide)]
  rw [show cl 25 = 25 from rfl, any_len 25 (by omega) rfl _ u3 u1, u2]
  have hm : mayV 25 2 (if b = true then -((decV 0 t : Int) * 64 + (q : Int) * 16) else (decV 0 t : Int) * 64 + (q : Int) * 16) = true := by
    unfold mayV
    rw [if_neg (by omega), if_pos rfl, show (rec0 25).length = true from rfl, show lowV 25 = -63999999999 from rfl, decide_eq_true (by split <;> omega), decide_eq_true (by split <;> omega)]; rfl
  simp only
  rw [hm]
  rfl
theorem pc_read (t : List UInt8) (ht : digB t 9 = true) (q : Nat) (hq : q < 4) :
    readV 3 ⟨(t ++ quarL q ++ [37]).toArray⟩ = ((3, (decV 0 t : Int) * 64 + (q : Int) * 16), true) := by
  obtain ⟨u1, u2, u3, u4⟩ := units t ht q hq false
  rw [if_neg (by simp), List.nil_append] at u1 u2 u3 u4
  rw [if_neg (by simp)] at u2
  have hlt := decV_lt9 ht
  unfold readV readL
  rw [plain_id (by intro c hc; rcases List.mem_append.1 hc with hc | hc
                   · exact u4 c hc
                   · simp at hc; subst hc; decide)]
  rw [show cl 3 = 3 from rfl, any_part 3 (by omega) rfl _ u3 u1, u2]
  have hm : mayV 3 3 ((decV 0 t : Int) * 64 + (q : Int) * 16) = true := by
    unfold mayV
    rw [if_neg (by omega), if_neg (by omega), if_pos rfl, show (rec0 3).part = true from rfl, decide_eq_true (by omega), decide_eq_true (by omega)]; rfl
  simp only
  rw [hm]
  rfl
end Go.Proofs.Val
