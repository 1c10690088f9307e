/- Plain laws of values: whole pixels, halves and quarters; no program in sight; no condition beside those that each theorem states. -/
import Derived.Test.YtmfhhlgjbjbnhaaDoorPVb
set_option linter.unusedVariables false
set_option linter.unusedSimpArgs false
namespace Go.Proofs.Val
open Go
theorem front_ne (l s m : List UInt8) (hf : ∃ c t, l = c :: t ∧ (c = 45 ∨ isDig c = true)) (hm : ∀ c t, m = c :: t → c ≠ 45 ∧ isDig c = false) (h0 : m ≠ []) : l ++ s ≠ m := by
  obtain ⟨c, t, hc, hd⟩ := hf
  intro e
  rw [hc, List.cons_append] at e
  obtain ⟨h1, h2⟩ := hm c (t ++ s) e.symm
  rcases hd with rfl | hd
  · exact h1 rfl
  · rw [hd] at h2; cases h2
theorem any_len (p : Nat) (hp : p < 27) (ha : (rec0 p).length = true) (l : List UInt8) (hf : ∃ c t, l = c :: t ∧ (c = 45 ∨ isDig c = true)) (r1 : numOk l = true) : anyP p (l ++ [112, 120]) = ((2, numN l), true) := by
  obtain ⟨fl, -, -, -⟩ := fin_kinds ⟨p, hp⟩
  simp only at fl
  obtain ⟨m1, m2⟩ := meas_app l [112, 120] 2 r1
  unfold anyP anyR
  rw [nil_of (fl ha).1, if_neg (idx_nil _), (fl ha).2, if_neg (by rw [decide_eq_false (front_ne l _ _ hf (by intro c t e; cases e; decide) (by decide))]; simp), if_neg, if_neg (by simp), if_pos (by rw [ha, m1]; rfl), m2]
  rw [decide_eq_false, Bool.and_false]
  · simp
  · intro e
    have := congrArg List.getLast? e
    simp at this
theorem any_part (p : Nat) (hp : p < 27) (ha : (rec0 p).part = true) (l : List UInt8) (hf : ∃ c t, l = c :: t ∧ (c = 45 ∨ isDig c = true)) (r1 : numOk l = true) : anyP p (l ++ [37]) = ((3, numN l), true) := by
  obtain ⟨-, fp, -, -⟩ := fin_kinds ⟨p, hp⟩
  simp only at fp
  obtain ⟨m1, m2⟩ := meas_app l [37] 3 r1
  have hx : measOk (l ++ [37]) [112, 120] = false := by
    unfold measOk
    rw [show ([112, 120] : List UInt8) = [112] ++ [120] from rfl, suf_last (by decide)]; rfl
  unfold anyP anyR
  rw [nil_of (fp ha).1, if_neg (idx_nil _), (fp ha).2, if_neg (by rw [decide_eq_false (front_ne l _ _ hf (by intro c t e; cases e; decide) (by decide))]; simp), if_neg, if_neg (by simp), if_neg (by rw [hx]; simp), if_pos ha, m1, m2]
  rw [decide_eq_false, Bool.and_false]
  · simp
  · intro e
    have := congrArg List.getLast? e
    simp at this
def quarL (q : Nat) : List UInt8 := if q = 0 then [] else if q = 1 then [46, 50, 53] else if q = 2 then [46, 53, 48] else [46, 55, 53]
def quarP (q : Nat) : List UInt8 := (quarL q).drop 1
theorem quar_eq (q : Nat) (h : q < 4) : quarL q = (if quarP q = [] then [] else 46 :: quarP q) ∧ (quarP q = [] ∨ digB (quarP q) 6 = true) ∧ (sixV (quarP q) : Int) * 64 / 1000000 = (q : Int) * 16 := by
  have : ∀ i : Fin 4, quarL i.val = (if quarP i.val = [] then [] else 46 :: quarP i.val) ∧ (quarP i.val = [] ∨ digB (quarP i.val) 6 = true) ∧ (sixV (quarP i.val) : Int) * 64 / 1000000 = (i.val : Int) * 16 := by decide +kernel
  exact this ⟨q, h⟩
theorem plain_quar (q : Nat) : ∀ c ∈ quarL q, plainB c = true := by
  unfold quarL
  split
  · simp
  split
  · decide
  split <;> decide
/-- A NUMBER THAT IS TOLD BY WHOLE PIXELS IS SO MANY UNITS -/
theorem units (t : List UInt8) (ht : digB t 9 = true) (q : Nat) (hq : q < 4) (b : Bool) :
    numOk ((if b = true then [45] else []) ++ t ++ quarL q) = true ∧ numN ((if b = true then [45] else []) ++ t ++ quarL q) = (if b = true then -((decV 0 t : Int) * 64 + (q : Int) * 16) else (decV 0 t : Int) * 64 + (q : Int) * 16) ∧
      (∃ c u, (if b = true then [45] else []) ++ t ++ quarL q = c :: u ∧ (c = 45 ∨ isDig c = true)) ∧ ∀ c ∈ (if b = true then [45] else []) ++ t ++ quarL q, plainB c = true := by
  obtain ⟨q1, q2, q3⟩ := quar_eq q hq
  have h := num_text b ht q2
  rw [← q1, q3] at h
  obtain ⟨t1, t2, t3⟩ := digB_iff.1 ht
  obtain ⟨c, u, rfl⟩ := List.exists_cons_of_ne_nil t1
  refine ⟨h.1, h.2, ?_, fun d hd => ?_⟩
  · cases b
    · exact ⟨c, u ++ quarL q, by simp, .inr (by simp at t3; exact t3.1)⟩
    · exact ⟨45, _, rfl, .inl rfl⟩
  · rcases List.mem_append.1 hd with hd | hd
    · rcases List.mem_append.1 hd with hd | hd
      · cases b
        · cases hd
        · simp at hd; subst hd; decide
      · exact plain_dig (List.all_eq_true.1 t3 d hd)
    · exact plain_quar q d hd
theorem px_read (t : List UInt8) (ht : digB t 9 = true) (q : Nat) (hq : q < 4) (b : Bool) :
    readV 25 ⟨((if b = true then [45] else []) ++ t ++ quarL q ++ [112, 120]).toArray⟩ = ((2, if b = true then -((decV 0 t : Int) * 64 + (q : Int) * 16) else (decV 0 t : Int) * 64 + (q : Int) * 16), true) := by
  obtain ⟨u1, u2, u3, u4⟩ := units t ht q hq b
  have hlt := decV_lt9 ht
  unfold readV readL
  rw [plain_id (by intro c hc; rcases List.mem_append.1 hc with hc | hc
                   · exact u4 c hc
                   · simp at hc; rcases hc with rfl | rfl <;> decide)]
  rw [show cl 25 = 25 from rfl, any_len 25 (by omega) rfl _ u3 u1, u2]
  have hm : mayV 25 2 (if b = true then -((decV 0 t : Int) * 64 + (q : Int) * 16) else (decV 0 t : Int) * 64 + (q : Int) * 16) = true := by
    unfold mayV
    rw [if_neg (by omega), if_pos rfl, show (rec0 25).length = true from rfl, show lowV 25 = -63999999999 from rfl, decide_eq_true (by split <;> omega), decide_eq_true (by split <;> omega)]; rfl
  simp only
  rw [hm]
  rfl
theorem pc_read (t : List UInt8) (ht : digB t 9 = true) (q : Nat) (hq : q < 4) :
    readV 3 ⟨(t ++ quarL q ++ [37]).toArray⟩ = ((3, (decV 0 t : Int) * 64 + (q : Int) * 16), true) := by
  obtain ⟨u1, u2, u3, u4⟩ := units t ht q hq false
  rw [if_neg (by simp), List.nil_append] at u1 u2 u3 u4
  rw [if_neg (by simp)] at u2
  have hlt := decV_lt9 ht
  unfold readV readL
  rw [plain_id (by intro c hc; rcases List.mem_append.1 hc with hc | hc
                   · exact u4 c hc
                   · simp at hc; subst hc; decide)]
  rw [show cl 3 = 3 from rfl, any_part 3 (by omega) rfl _ u3 u1, u2]
  have hm : mayV 3 3 ((decV 0 t : Int) * 64 + (q : Int) * 16) = true := by
    unfold mayV
    rw [if_neg (by omega), if_neg (by omega), if_pos rfl, show (rec0 3).part = true from rfl, decide_eq_true (by omega), decide_eq_true (by omega)]; rfl
  simp only
  rw [hm]
  rfl
end Go.Proofs.Val
