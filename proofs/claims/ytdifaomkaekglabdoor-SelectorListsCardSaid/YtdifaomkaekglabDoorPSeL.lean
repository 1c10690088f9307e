/- The plain half of SelectorLists. -/
import Derived.Test.YtdifaomkaekglabDoorPSeD
import Derived.Test.YtdifaomkaekglabDoorHS9
set_option linter.unusedVariables false
set_option linter.unusedSimpArgs false
namespace Go.Proofs.YtdifaomkaekglabDoor.Pure
open Go.RowKit Go.Proofs.YtdifaomkaekglabDoor.HS Go.Proofs.YtdifaomkaekglabDoorW.PrintWords Go.Proofs.YtdifaomkaekglabDoorW.PrintLast Go.Proofs.YtdifaomkaekglabDoorW.PrintMore Go.Proofs.Scn Go.Proofs.Tok
abbrev SEL := S25
/-! ### List -/
def listL : List ByteArray → List SEL → List SEL × Bool
  | [], acc => (acc, true)
  | p :: r, acc => if (readV p).2.2 = true then listL r (acc ++ [⟨(readV p).1, (readV p).2.1⟩]) else ([], false)
theorem rList_l (P : List ByteArray) (hP : P.length ≤ 100000) (hs : ∀ p ∈ P, p.size ≤ 30000) : ∀ (d n : Nat) (acc : List SEL), n + d = P.length → acc.length ≤ n → Ev (fun k => selector_List.l0 k acc P (P.length : Int) (n : Int)) (listL (P.drop n) acc)
  | 0, n, acc, h, ha => by
    obtain rfl : n = P.length := by omega
    rw [List.drop_length]
    exact Ev.step (f := fun k => some (acc, true)) (fun k => by rw [selector_List.l0, if_neg (by omega)]) (Ev.now _)
  | d + 1, n, acc, h, ha => by
    have hn : n < P.length := by omega
    rw [List.drop_eq_getElem_cons hn, listL]
    have hR := rRead P[n] (hs _ (List.getElem_mem hn))
    generalize readV P[n] = r at hR ⊢
    refine Ev.step (f := fun k => (selector_Read.f k P[n]).bind fun bt168 => (if bt168.2.2 = true then (if acc.length < 2932031007402 then (selector_List.l0 k (acc ++ [(⟨bt168.1, bt168.2.1⟩ : SEL)]) P (P.length : Int) (wrap64 ((n : Int) + 1))) else (none)) else (some (([] : List SEL), false)))) (fun k => by rw [selector_List.l0, if_pos (by omega), if_pos (by omega), if_pos (by omega), rdOf_at hn]) ?_
    refine Ev.bind hR ?_
    by_cases c : r.2.2 = true
    · simp only [if_pos c, if_pos (show acc.length < 2932031007402 by omega), w64s n (by omega)]
      exact rList_l P hP hs d (n + 1) _ (by omega) (by simp; omega)
    · simp only [if_neg c]
      exact Ev.now _
theorem spl_len (c : UInt8) : ∀ l : List UInt8, (spl c l).length ≤ l.length + 1
  | [] => by simp [spl]
  | x :: t => by
    have ih := spl_len c t
    by_cases h : x = c
    · subst h; rw [spl_hit]; simp; omega
    · obtain ⟨a, r, e⟩ := spl_ne c t
      rw [spl_step h e]
      rw [e] at ih
      simp at ih ⊢
      omega
theorem spl_mem (c : UInt8) : ∀ (l : List UInt8), ∀ p ∈ spl c l, p.length ≤ l.length
  | [], p, hp => by simp [spl] at hp; rw [hp]; simp
  | x :: t, p, hp => by
    have ih := spl_mem c t
    by_cases h : x = c
    · subst h
      rw [spl_hit] at hp
      rcases List.mem_cons.1 hp with rfl | hp
      · simp
      · have := ih p hp; simp; omega
    · obtain ⟨a, r, e⟩ := spl_ne c t
      rw [spl_step h e] at hp
      rw [e] at ih
      rcases List.mem_cons.1 hp with rfl | hp
      · have := ih a (by simp); simp; omega
      · have := ih p (by simp [hp]); simp; omega
theorem rList (s : ByteArray) (hs : s.size ≤ 30000) : Ev (fun k => selector_List.f k s) (listL ((spl 44 s.data.toList).map fun l => ba (trimL l)) []) := by
  have h1 := spl_len 44 s.data.toList
  rw [← sz] at h1
  refine Ev.congr (f := fun k => selector_List.l0 k [] ((spl 44 s.data.toList).map fun l => ba (trimL l)) (((spl 44 s.data.toList).map fun l => ba (trimL l)).length : Int) ((0 : Nat) : Int)) (fun k => ?_) ((rList_l _ (by rw [List.length_map]; omega) ?_ ((spl 44 s.data.toList).map fun l => ba (trimL l)).length 0 [] (Nat.zero_add _) (by simp)).eq (by rw [List.drop_zero]))
  · rw [selector_List.f, scan_Split.f, if_pos (by omega), show UInt8.ofNat (44 : Int).toNat = 44 by decide, splitV_eq, Option.bind_some]
    rfl
  · intro p hp
    obtain ⟨q, hq, rfl⟩ := List.mem_map.1 hp
    have a := spl_mem 44 _ q hq
    have b := trim_len q
    rw [sz, ba_data]
    rw [← sz] at a
    omega
/-! ### printed texts between commas -/
def PL (x : SEL) : List UInt8 := (printV (x.f0.map it) x.f1).data.toList
def mayB (x : SEL) : Bool := mayS (x.f0.map it) x.f1.length
theorem ba_PL (x : SEL) : ba (PL x) = printV (x.f0.map it) x.f1 := data_ba _
theorem pl_chars : ∀ (xs : List Smp) (bs : List Bool), (∀ x ∈ xs, mayX x = true) → ∀ c ∈ pl xs bs, c ≠ 44
  | [], bs, _, c, hc => by simp [pl] at hc
  | x :: xs, [], _, c, hc => by simp [pl] at hc
  | x :: xs, b :: bs, h, c, hc => by
    rw [pl] at hc
    rcases List.mem_append.1 hc with hc | hc
    · cases b
      · have : c = 32 := by simpa [sp] using hc
        rw [this]; decide
      · have : c = 32 ∨ c = 62 := by
          have : c = 32 ∨ c = 62 ∨ c = 32 := by simpa [sp] using hc
          rcases this with h | h | h
          · exact Or.inl h
          · exact Or.inr h
          · exact Or.inl h
        rcases this with rfl | rfl <;> decide
    · rcases List.mem_append.1 hc with hc | hc
      · exact (okT_all ((T_ok (h x (by simp))).2 c hc)).2.2.2
      · exact pl_chars xs bs (fun y hy => h y (by simp [hy])) c hc
theorem pl_last : ∀ (xs : List Smp) (bs : List Bool), (∀ x ∈ xs, mayX x = true) → ∀ x0, mayX x0 = true → ∀ c, (T x0 ++ pl xs bs).getLast? = some c → isB c = false
  | [], bs, _, x0, h0, c, hc => by
    rw [show pl [] bs = [] by cases bs <;> rfl, List.append_nil] at hc
    exact (okT_all ((T_ok h0).2 c (List.mem_of_getLast? hc))).1
  | x :: xs, [], h, x0, h0, c, hc => by
    rw [show pl (x :: xs) [] = [] from rfl, List.append_nil] at hc
    exact (okT_all ((T_ok h0).2 c (List.mem_of_getLast? hc))).1
  | x :: xs, b :: bs, h, x0, h0, c, hc => by
    have hx := h x (by simp)
    have hne : T x ++ pl xs bs ≠ [] := by
      intro e
      exact (T_ok hx).1 (List.append_eq_nil_iff.1 e).1
    rw [pl, ← List.append_assoc, List.getLast?_append] at hc
    cases hq : (T x ++ pl xs bs).getLast? with
    | none => exact absurd (List.getLast?_eq_none_iff.1 hq) hne
    | some d =>
      rw [hq] at hc
      have hc : d = c := by simpa using hc
      subst hc
      exact pl_last xs bs (fun y hy => h y (by simp [hy])) x hx d hq
theorem PL_ok (x : SEL) : 44 ∉ PL x ∧ trimL (PL x) = PL x := by
  unfold PL
  cases h : mayS (x.f0.map it) x.f1.length with
  | false => rw [print_empty h]; exact ⟨by simp, rfl⟩
  | true =>
    cases hx : x.f0.map it with
    | nil => rw [hx] at h; exact absurd rfl (mayS_parts h).1
    | cons y ys =>
      rw [hx] at h
      obtain ⟨_, _, _, hm⟩ := mayS_parts h
      rw [print_data h]
      have hy := hm y (by simp)
      have hys : ∀ z ∈ ys, mayX z = true := fun z hz => hm z (by simp [hz])
      constructor
      · intro hc
        rcases List.mem_append.1 hc with hc | hc
        · exact (okT_all ((T_ok hy).2 44 hc)).2.2.2 rfl
        · exact pl_chars ys x.f1 hys 44 hc rfl
      · apply trim_tidy
        constructor
        · intro c hc
          obtain ⟨a, r, hT⟩ := List.exists_cons_of_ne_nil (T_ok hy).1
          rw [hT] at hc
          have hc : a = c := by simpa using hc
          subst hc
          exact (okT_all ((T_ok hy).2 a (by rw [hT]; simp))).1
        · intro c hc
          exact pl_last ys x.f1 hys y hy c hc
theorem listL_all : ∀ (l acc : List SEL), listL (l.map fun x => ba (PL x)) acc = if l.all mayB = true then (acc ++ l, true) else ([], false)
  | [], acc => by simp [listL]
  | x :: l, acc => by
    rw [List.map_cons, listL, ba_PL, List.all_cons]
    cases h : mayB x with
    | true =>
      rw [read_print x.f0 x.f1 h, if_pos rfl, listL_all l, Bool.true_and]
      simp
    | false =>
      rw [print_empty h, read_empty, if_neg (by decide)]
      rfl
theorem rd25_at {l : List SEL} {i : Nat} (h : i < l.length) : rd_T25 l (i : Int) = l[i] := by
  unfold rd_T25
  rw [Int.toNat_natCast, List.getD, List.getElem?_eq_getElem h]
  rfl
theorem lists_l1 (l : List SEL) (hl : l.length ≤ 10) (hf : ∀ x ∈ l, x.f0.length ≤ 1000 ∧ x.f1.length ≤ 1000 ∧ ∀ y ∈ x.f0, fine y) : ∀ (d i : Nat), i + d = l.length → Ev (fun k => scrimlaw09_SelectorLists.l1 k l l (l.length : Int) (i : Int)) true
  | 0, i, h => Ev.step (f := fun k => some true) (fun k => by rw [scrimlaw09_SelectorLists.l1, if_neg (by omega)]) (Ev.now _)
  | d + 1, i, h => by
    have hi : i < l.length := by omega
    obtain ⟨a, b, c⟩ := hf _ (List.getElem_mem hi)
    refine Ev.step (fun k => ?_) (lists_l1 l hl hf d (i + 1) (by omega))
    rw [scrimlaw09_SelectorLists.l1, if_pos (by omega), if_pos (by omega), if_pos (by omega), if_pos (by omega), rd25_at hi, f_Same _ _ _ _ a a b b c c, Option.bind_some, if_pos (by simp), w64s i (by omega)]
theorem lists_end (l : List SEL) (hl : l.length ≤ 10) (h0 : 0 < l.length) (x3 : ByteArray) (hx : x3.size ≤ 30000) (hd : (spl 44 x3.data.toList).map trimL = l.map PL) (i : Nat) (hi : ¬ i < l.length) : Ev (fun k => scrimlaw09_SelectorLists.l0 k l x3 (l.all mayB) l (l.length : Int) (i : Int)) true := by
  have hL := rList x3 hx
  have e : ((spl 44 x3.data.toList).map fun q => ba (trimL q)) = l.map fun x => ba (PL x) := by
    have : ((spl 44 x3.data.toList).map fun q => ba (trimL q)) = ((spl 44 x3.data.toList).map trimL).map ba := by rw [List.map_map]; rfl
    rw [this, hd, List.map_map]
    rfl
  rw [e, listL_all] at hL
  refine Ev.step (f := fun k => (selector_List.f k x3).bind fun bt327 => (if (bt327.2 != l.all mayB) = true then (scrimlaw09_SelectorLists.j2 k l bt327.1 true) else (if bt327.2 = true then (scrimlaw09_SelectorLists.j2 k l bt327.1 ((bt327.1.length : Int) != (l.length : Int))) else (if (bt327.1.length : Int) > 0 then (scrimlaw09_SelectorLists.j2 k l bt327.1 true) else (scrimlaw09_SelectorLists.j2 k l bt327.1 false))))) (fun k => by rw [scrimlaw09_SelectorLists.l0, if_neg (by omega)]) ?_
  refine Ev.bind hL ?_
  cases h : l.all mayB with
  | true =>
    have hm : ∀ x ∈ l, mayB x = true := List.all_eq_true.1 h
    simp only [if_true, List.nil_append, bne_self_eq_false, Bool.false_eq_true, if_false]
    refine Ev.step (f := fun k => scrimlaw09_SelectorLists.l1 k l l (l.length : Int) ((0 : Nat) : Int)) (fun k => by rw [scrimlaw09_SelectorLists.j2, if_neg (by decide)]; rfl) ?_
    exact lists_l1 l hl (fun x hx => by
      obtain ⟨a, b, c⟩ := fine_may (hm x hx)
      exact ⟨Nat.le_trans a (by omega), Nat.le_trans b (by omega), c⟩) l.length 0 (by omega)
  | false =>
    simp only [Bool.false_eq_true, if_false, bne_self_eq_false, List.length_nil, show ¬ (((0 : Nat) : Int) > 0) by omega]
    refine Ev.step (f := fun k => scrimlaw09_SelectorLists.l1 k l [] ((0 : Nat) : Int) ((0 : Nat) : Int)) (fun k => by rw [scrimlaw09_SelectorLists.j2, if_neg (by decide)]; rfl) ?_
    exact Ev.step (f := fun k => some true) (fun k => by rw [scrimlaw09_SelectorLists.l1, if_neg (by omega)]) (Ev.now _)
theorem lists_l (l : List SEL) (hl : l.length ≤ 10) (h0 : 0 < l.length) (hz : ∀ x ∈ l, x.f0.length < 1954687338268 ∧ ∀ y ∈ x.f0, small (c50 y)) : ∀ (d i : Nat) (x3 : ByteArray) (x4 : Bool), i + d = l.length → x3.size ≤ 2002 * i → (i = 0 → x3 = ⟨#[]⟩) → (0 < i → (spl 44 x3.data.toList).map trimL = (l.take i).map PL) → x4 = (l.take i).all mayB →
    Ev (fun k => scrimlaw09_SelectorLists.l0 k l x3 x4 l (l.length : Int) (i : Int)) true
  | 0, i, x3, x4, h, hx, he, hd, h4 => by
    obtain rfl : i = l.length := by omega
    rw [List.take_length] at h4 hd
    subst h4
    exact lists_end l hl h0 x3 (by omega) (hd h0) _ (by omega)
  | d + 1, i, x3, x4, h, hx, he, hd, h4 => by
    have hi : i < l.length := by omega
    have hs := hz _ (List.getElem_mem hi)
    obtain ⟨b, hb, hbf⟩ := rLarge (l[i].f0.map c50) l[i].f1 (fun y hy => by obtain ⟨x, hx, rfl⟩ := List.mem_map.1 hy; exact hs.2 x hx)
    have hO := rOwn l[i].f0 l[i].f1 hs.1
    have ew := w64s i (by omega)
    have hP := ba_PL l[i]
    obtain ⟨k1, k2⟩ := PL_ok l[i]
    have hps := print_size l[i].f0 l[i].f1
    have l2 : (⟨#[44, 32]⟩ : ByteArray).size = 2 := rfl
    refine Ev.step (f := fun k => (scrimlaw09_own.f k l[i].f0 l[i].f1).bind fun bt316 => ((scrimref09_Large.f k bt316.1 bt316.2).bind fun t322 => (if t322 = true then (some true) else (if (i : Int) > 0 then (if x3.size + 2 ≤ 9223372036854775807 then ((selector_Print.f l[i].f0 l[i].f1).bind fun t323 => (if (x3 ++ (⟨#[44, 32]⟩ : ByteArray)).size + t323.size ≤ 9223372036854775807 then (if x4 = true then ((selector_May.f l[i].f0 l[i].f1).bind fun t324 => (scrimlaw09_SelectorLists.l0 k l ((x3 ++ (⟨#[44, 32]⟩ : ByteArray)) ++ t323) t324 l (l.length : Int) (wrap64 ((i : Int) + 1)))) else (scrimlaw09_SelectorLists.l0 k l ((x3 ++ (⟨#[44, 32]⟩ : ByteArray)) ++ t323) false l (l.length : Int) (wrap64 ((i : Int) + 1)))) else (none))) else (none)) else ((selector_Print.f l[i].f0 l[i].f1).bind fun t325 => (if x3.size + t325.size ≤ 9223372036854775807 then (if x4 = true then ((selector_May.f l[i].f0 l[i].f1).bind fun t326 => (scrimlaw09_SelectorLists.l0 k l (x3 ++ t325) t326 l (l.length : Int) (wrap64 ((i : Int) + 1)))) else (scrimlaw09_SelectorLists.l0 k l (x3 ++ t325) false l (l.length : Int) (wrap64 ((i : Int) + 1)))) else (none)))))))
      (fun k => by rw [scrimlaw09_SelectorLists.l0, if_pos (by omega), if_pos (by omega), if_pos (by omega), rd25_at hi]) ?_
    refine Ev.bind hO (Ev.bind hb ?_)
    cases b with
    | true => exact Ev.now true
    | false =>
      obtain ⟨hc, hb1⟩ := hbf rfl
      obtain ⟨h5, hf⟩ := fine_small hc
      have f1 := f_Print l[i].f0 l[i].f1 (by omega) (by omega) hf
      have f2 := f_May l[i].f0 l[i].f1 (by omega) (by omega) hf
      have hall : (l.take (i + 1)).all mayB = ((l.take i).all mayB && mayB l[i]) := by rw [List.take_succ_eq_append_getElem hi, List.all_append]; simp
      have hmap : (l.take (i + 1)).map PL = (l.take i).map PL ++ [PL l[i]] := by rw [List.take_succ_eq_append_getElem hi, List.map_append]; rfl
      have ih := fun x3' h1 h2 => lists_l l hl h0 hz d (i + 1) x3' (x4 && mayB l[i]) (by omega) h1 (by omega) h2 (by rw [hall, h4])
      have e4 : ∀ (k : Nat) (y : ByteArray), (if x4 = true then ((some (mayB l[i])).bind fun t324 => (scrimlaw09_SelectorLists.l0 k l y t324 l (l.length : Int) ((i + 1 : Nat) : Int))) else (scrimlaw09_SelectorLists.l0 k l y false l (l.length : Int) ((i + 1 : Nat) : Int))) = scrimlaw09_SelectorLists.l0 k l y (x4 && mayB l[i]) l (l.length : Int) ((i + 1 : Nat) : Int) := by
        intro k y
        cases x4
        · rw [if_neg (by decide), Bool.false_and]
        · rw [if_pos rfl, Option.bind_some, Bool.true_and]
      rw [show mayS (l[i].f0.map it) l[i].f1.length = mayB l[i] from rfl] at f2
      simp only [Bool.false_eq_true, if_false, f1, f2, ew, Option.bind_some, if_pos (show x3.size + 2 ≤ 9223372036854775807 by omega)]
      by_cases hi0 : (i : Int) > 0
      · have hsz : ((x3 ++ (⟨#[44, 32]⟩ : ByteArray)) ++ printV (l[i].f0.map it) l[i].f1).size ≤ 2002 * (i + 1) := by rw [ByteArray.size_append, ByteArray.size_append]; omega
        have hsz2 : (x3 ++ (⟨#[44, 32]⟩ : ByteArray)).size + (printV (l[i].f0.map it) l[i].f1).size ≤ 9223372036854775807 := by rw [ByteArray.size_append]; omega
        simp only [if_pos hi0, if_pos hsz2]
        refine Ev.congr (fun k => ?_) (ih ((x3 ++ (⟨#[44, 32]⟩ : ByteArray)) ++ printV (l[i].f0.map it) l[i].f1) hsz (fun _ => ?_))
        · exact e4 k _
        · have ed : ((x3 ++ (⟨#[44, 32]⟩ : ByteArray)) ++ printV (l[i].f0.map it) l[i].f1).data.toList = x3.data.toList ++ 44 :: (32 :: PL l[i]) := by
            rw [ByteArray.data_append, Array.toList_append, ByteArray.data_append, Array.toList_append, List.append_assoc]
            rfl
          rw [ed, spl_app, spl_none (l := 32 :: PL l[i]) (by simp [k1]), List.map_append, hd (by omega), hmap]
          simp [trim_cons (c := 32) (l := PL l[i]) rfl, k2]
      · obtain rfl : i = 0 := by omega
        have hx0 := he rfl
        subst hx0
        have e0 : (⟨#[]⟩ : ByteArray) ++ printV (l[0].f0.map it) l[0].f1 = printV (l[0].f0.map it) l[0].f1 := by
          apply ba_ext
          rw [ByteArray.data_append, Array.toList_append]
          rfl
        have hs0 : (⟨#[]⟩ : ByteArray).size = 0 := rfl
        simp only [if_neg hi0, if_pos (show (⟨#[]⟩ : ByteArray).size + (printV (l[0].f0.map it) l[0].f1).size ≤ 9223372036854775807 by omega), e0]
        refine Ev.congr (fun k => ?_) (ih (printV (l[0].f0.map it) l[0].f1) (by omega) (fun _ => ?_))
        · exact e4 k _
        · show (spl 44 (PL l[0])).map trimL = _
          rw [spl_none k1, hmap]
          simp [k2]
theorem SelectorLists (l : List SEL) (hz : ∀ x ∈ l, x.f0.length < 1954687338268 ∧ ∀ y ∈ x.f0, small (c50 y)) : ∃ k, scrimlaw09_SelectorLists.f k l = some true := by
  refine Ev.rounds (g := fun k => scrimlaw09_SelectorLists.f k l) ?_
  unfold scrimlaw09_SelectorLists.f
  refine Ev.bind awake ?_
  simp only [if_true]
  have j0t : Ev (fun k => scrimlaw09_SelectorLists.j0 k l true) true := Ev.step (f := fun k => some true) (fun k => by rw [scrimlaw09_SelectorLists.j0, if_pos rfl]) (Ev.now _)
  by_cases hl0 : (l.length : Int) = 0
  · simp only [if_pos hl0]
    exact j0t
  · simp only [if_neg hl0]
    by_cases h10 : (l.length : Int) > 10
    · rw [decide_eq_true h10]
      exact j0t
    · rw [decide_eq_false h10]
      refine Ev.step (f := fun k => scrimlaw09_SelectorLists.l0 k l ⟨#[]⟩ true l (l.length : Int) ((0 : Nat) : Int)) (fun k => by rw [scrimlaw09_SelectorLists.j0, if_neg (by decide)]; rfl) ?_
      exact lists_l l (by omega) (by omega) hz l.length 0 ⟨#[]⟩ true (by omega) (by decide) (fun _ => rfl) (fun h => by omega) (by simp)
end Go.Proofs.YtdifaomkaekglabDoor.Pure
