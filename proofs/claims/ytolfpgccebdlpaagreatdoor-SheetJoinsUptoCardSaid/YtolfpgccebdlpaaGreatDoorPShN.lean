/- What sheet.Read computes, in plain words: what is split is read as selectors, blocks as rules; no condition beside those that each theorem states. -/
import Derived.Test.YtolfpgccebdlpaaGreatDoorShN
import Derived.Test.YtolfpgccebdlpaaGreatDoorHT1
import Derived.Test.YtolfpgccebdlpaaGreatDoorShS
import Derived.Test.YtolfpgccebdlpaaGreatDoorScC
import Derived.Test.YtolfpgccebdlpaaGreatDoorVaG
import Derived.Test.YtolfpgccebdlpaaGreatDoorSmg
set_option linter.unusedVariables false
set_option linter.unusedSimpArgs false
namespace Go.Proofs.YtolfpgccebdlpaaGreatDoor.Pure
open Go.RowKit Go.Proofs.YtolfpgccebdlpaaGreatDoor.HT Go.Proofs.YtolfpgccebdlpaaGreatDoor.Shp Go.Proofs.YtolfpgccebdlpaaGreatDoorW.PrintWords Go.Proofs.YtolfpgccebdlpaaGreatDoorW.PrintLast Go.Proofs.YtolfpgccebdlpaaGreatDoorW.PrintMore Go.Proofs.Scn Go.Proofs.Tok
abbrev SEL := S25
/-! ### List -/
def listL : List ByteArray → List SEL → List SEL × Bool
  | [], acc => (acc, true)
  | p :: r, acc => if (readV p).2.2 = true then listL r (acc ++ [⟨(readV p).1, (readV p).2.1⟩]) else ([], false)
theorem rList_l (P : List ByteArray) (hP : P.length ≤ 100000) (hs : ∀ p ∈ P, p.size ≤ 30000) : ∀ (d n : Nat) (acc : List SEL), n + d = P.length → acc.length ≤ n → Ev (fun k => selector_List.l0 k acc P (P.length : Int) (n : Int)) (listL (P.drop n) acc)
  | 0, n, acc, h, ha => by
    obtain rfl : n = P.length := by omega
    rw [List.drop_length]
    exact Ev.step (f := fun k => some (acc, true)) (fun k => by rw [selector_List.l0, if_neg (by omega)]) (Ev.now _)
  | d + 1, n, acc, h, ha => by
    have hn : n < P.length := by omega
    rw [List.drop_eq_getElem_cons hn, listL]
    have hR := rRead P[n] (hs _ (List.getElem_mem hn))
    generalize readV P[n] = r at hR ⊢
    refine Ev.step (f := fun k => (selector_Read.f k P[n]).bind fun bt168 => (if bt168.2.2 = true then (if acc.length < 2932031007402 then (selector_List.l0 k (acc ++ [(⟨bt168.1, bt168.2.1⟩ : SEL)]) P (P.length : Int) (wrap64 ((n : Int) + 1))) else (none)) else (some (([] : List SEL), false)))) (fun k => by rw [selector_List.l0, if_pos (by omega), if_pos (by omega), if_pos (by omega), rdOf_at hn]) ?_
    refine Ev.bind hR ?_
    by_cases c : r.2.2 = true
    · simp only [if_pos c, if_pos (show acc.length < 2932031007402 by omega), w64s n (by omega)]
      exact rList_l P hP hs d (n + 1) _ (by omega) (by simp; omega)
    · simp only [if_neg c]
      exact Ev.now _
theorem rList (s : ByteArray) (hs : s.size ≤ 30000) : Ev (fun k => selector_List.f k s) (listL ((spl 44 s.data.toList).map fun l => ba (trimL l)) []) := by
  have h1 := spl_len 44 s.data.toList
  rw [← sz] at h1
  refine Ev.congr (f := fun k => selector_List.l0 k [] ((spl 44 s.data.toList).map fun l => ba (trimL l)) (((spl 44 s.data.toList).map fun l => ba (trimL l)).length : Int) ((0 : Nat) : Int)) (fun k => ?_) ((rList_l _ (by rw [List.length_map]; omega) ?_ ((spl 44 s.data.toList).map fun l => ba (trimL l)).length 0 [] (Nat.zero_add _) (by simp)).eq (by rw [List.drop_zero]))
  · rw [selector_List.f, scan_Split.f, if_pos (by omega), show UInt8.ofNat (44 : Int).toNat = 44 by decide, splitV_eq, Option.bind_some]
    rfl
  · intro p hp
    obtain ⟨q, hq, rfl⟩ := List.mem_map.1 hp
    have a := spl_mem 44 _ q hq
    have b := trim_len q
    rw [sz, ba_data]
    rw [← sz] at a
    omega
/-! ### printed texts between commas -/
def PL (x : SEL) : List UInt8 := (printV (x.f0.map it) x.f1).data.toList
def mayB (x : SEL) : Bool := mayS (x.f0.map it) x.f1.length
theorem ba_PL (x : SEL) : ba (PL x) = printV (x.f0.map it) x.f1 := data_ba _
theorem pl_chars : ∀ (xs : List Smp) (bs : List Bool), (∀ x ∈ xs, mayX x = true) → ∀ c ∈ pl xs bs, c ≠ 44
  | [], bs, _, c, hc => by simp [pl] at hc
  | x :: xs, [], _, c, hc => by simp [pl] at hc
  | x :: xs, b :: bs, h, c, hc => by
    rw [pl] at hc
    rcases List.mem_append.1 hc with hc | hc
    · cases b
      · have : c = 32 := by simpa [sp] using hc
        rw [this]; decide
      · have : c = 32 ∨ c = 62 := by
          have : c = 32 ∨ c = 62 ∨ c = 32 := by simpa [sp] using hc
          rcases this with h | h | h
          · exact Or.inl h
          · exact Or.inr h
          · exact Or.inl h
        rcases this with rfl | rfl <;> decide
    · rcases List.mem_append.1 hc with hc | hc
      · exact (okT_all ((T_ok (h x (by simp))).2 c hc)).2.2.2
      · exact pl_chars xs bs (fun y hy => h y (by simp [hy])) c hc
theorem pl_last : ∀ (xs : List Smp) (bs : List Bool), (∀ x ∈ xs, mayX x = true) → ∀ x0, mayX x0 = true → ∀ c, (T x0 ++ pl xs bs).getLast? = some c → isB c = false
  | [], bs, _, x0, h0, c, hc => by
    rw [show pl [] bs = [] by cases bs <;> rfl, List.append_nil] at hc
    exact (okT_all ((T_ok h0).2 c (List.mem_of_getLast? hc))).1
  | x :: xs, [], h, x0, h0, c, hc => by
    rw [show pl (x :: xs) [] = [] from rfl, List.append_nil] at hc
    exact (okT_all ((T_ok h0).2 c (List.mem_of_getLast? hc))).1
  | x :: xs, b :: bs, h, x0, h0, c, hc => by
    have hx := h x (by simp)
    have hne : T x ++ pl xs bs ≠ [] := by
      intro e
      exact (T_ok hx).1 (List.append_eq_nil_iff.1 e).1
    rw [pl, ← List.append_assoc, List.getLast?_append] at hc
    cases hq : (T x ++ pl xs bs).getLast? with
    | none => exact absurd (List.getLast?_eq_none_iff.1 hq) hne
    | some d =>
      rw [hq] at hc
      have hc : d = c := by simpa using hc
      subst hc
      exact pl_last xs bs (fun y hy => h y (by simp [hy])) x hx d hq
theorem PL_ok (x : SEL) : 44 ∉ PL x ∧ trimL (PL x) = PL x := by
  unfold PL
  cases h : mayS (x.f0.map it) x.f1.length with
  | false => rw [print_empty h]; exact ⟨by simp, rfl⟩
  | true =>
    cases hx : x.f0.map it with
    | nil => rw [hx] at h; exact absurd rfl (mayS_parts h).1
    | cons y ys =>
      rw [hx] at h
      obtain ⟨_, _, _, hm⟩ := mayS_parts h
      rw [print_data h]
      have hy := hm y (by simp)
      have hys : ∀ z ∈ ys, mayX z = true := fun z hz => hm z (by simp [hz])
      constructor
      · intro hc
        rcases List.mem_append.1 hc with hc | hc
        · exact (okT_all ((T_ok hy).2 44 hc)).2.2.2 rfl
        · exact pl_chars ys x.f1 hys 44 hc rfl
      · apply trim_tidy
        constructor
        · intro c hc
          obtain ⟨a, r, hT⟩ := List.exists_cons_of_ne_nil (T_ok hy).1
          rw [hT] at hc
          have hc : a = c := by simpa using hc
          subst hc
          exact (okT_all ((T_ok hy).2 a (by rw [hT]; simp))).1
        · intro c hc
          exact pl_last ys x.f1 hys y hy c hc
theorem listL_all : ∀ (l acc : List SEL), listL (l.map fun x => ba (PL x)) acc = if l.all mayB = true then (acc ++ l, true) else ([], false)
  | [], acc => by simp [listL]
  | x :: l, acc => by
    rw [List.map_cons, listL, ba_PL, List.all_cons]
    cases h : mayB x with
    | true =>
      rw [read_print x.f0 x.f1 h, if_pos rfl, listL_all l, Bool.true_and]
      simp
    | false =>
      rw [print_empty h, read_empty, if_neg (by decide)]
      rfl
/-! ### blocks -/
theorem trimV_eq {s : ByteArray} {l : List UInt8} (h : s.data.toList = l) : trimV s = ba (trimL l) := by rw [trimV_ba, h]
def mkBl (p : List UInt8 × List UInt8) : S119 := ⟨ba (trimL p.1), ba (trimL p.2)⟩
theorem iAnyB (s : ByteArray) (h : s.size ≤ 1000000) : strings_IndexAny.f s ⟨#[123, 125]⟩ = some (Lib.indexAny s.data.toList [123, 125]) := by
  unfold strings_IndexAny.f
  rw [if_pos (by omega), if_pos (by decide), if_pos (by decide), if_pos (by decide)]
theorem iCut (s : ByteArray) (h : s.size ≤ 1000000) : strings_Cut.f s ⟨#[125]⟩ = some (ba (Lib.cut s.data.toList [125]).1, ba (Lib.cut s.data.toList [125]).2.1, (Lib.cut s.data.toList [125]).2.2) := by
  unfold strings_Cut.f
  rw [if_pos (by omega), if_pos (by decide)]
  rfl
theorem iTrim (s : ByteArray) (h : s.size ≤ 1000000) : scan_Trim.f s = some (trimV s) := by
  unfold scan_Trim.f
  rw [if_pos (by omega)]
theorem gBlocks : ∀ (n : Nat) (s : ByteArray) (x3 : List S119), s.size ≤ n → n ≤ 100000 → x3.length + n ≤ 1000000 → Ev (fun k => scan_Blocks.l0 k s x3) (x3 ++ (bgo none [] s.data.toList).map mkBl)
  | n, s, x3, hn, hm, hx => by
    rcases any_spec [123, 125] s.data.toList with ⟨h1, h2⟩ | ⟨p, b, t, h1, h2, h3, h4⟩
    · have hnone : bgo none [] s.data.toList = [] := by
        have := bgo_none_app (t := []) (p := s.data.toList) (cur := []) (fun c hc => by
          have := h2 c hc
          simp at this
          exact this)
        rw [List.append_nil] at this
        rw [this, bgo_nil]
      refine Ev.step (f := fun k => some x3) (fun k => by rw [scan_Blocks.l0, iAnyB s (by omega), h1, Option.bind_some, if_pos (by decide)]) ?_
      exact (Ev.now _).eq (by rw [hnone]; simp)
    · have hp : ∀ c ∈ p, c ≠ 123 ∧ c ≠ 125 := fun c hc => by
        have := h2 c hc
        simp at this
        exact this
      have hd : s.data.toList.drop p.length = b :: t := by rw [h1, List.drop_left]
      obtain ⟨g1, g2, g3⟩ := drop_at hd
      have hx2 : (s.extract (p.length + 1) s.size).data.toList = t := by rw [ext_to]; exact g3
      have hlen : s.size = p.length + (t.length + 1) := by rw [sz, h1]; simp
      cases n with
      | zero => omega
      | succ n =>
        have hxs : (s.extract (p.length + 1) s.size).size ≤ n := by rw [sz, hx2]; omega
        have hb : b = 123 ∨ b = 125 := by simpa using h3
        rcases hb with rfl | rfl
        · refine Ev.step (f := fun k => (strings_Cut.f (s.extract (p.length + 1) s.size) (⟨#[125]⟩ : ByteArray)).bind fun bt102 => (if bt102.2.2 = true then (if (p.length : Int) ≤ (s.size : Int) then ((scan_Trim.f (s.extract 0 (p.length : Int).toNat)).bind fun t105 => ((scan_Trim.f bt102.1).bind fun t106 => (if x3.length < 4398046511104 then (scan_Blocks.l0 k bt102.2.1 (x3 ++ [(⟨t105, t106⟩ : S119)])) else (none)))) else (none)) else (some x3))) (fun k => ?_) ?_
          · rw [scan_Blocks.l0, iAnyB s (by omega), h4, Option.bind_some, if_neg (by omega), if_pos (by omega), if_pos (by omega), g2, if_neg (by decide), w64s p.length (by omega), if_pos (by omega), if_pos (by omega), Int.toNat_natCast]
          · rw [iCut _ (by omega), hx2]
            simp only [Option.bind_some]
            rcases cut_spec 125 t with ⟨c1, c2⟩ | ⟨q, u, c1, c2, c3⟩
            · rw [c1]
              simp only [Bool.false_eq_true, if_false]
              refine (Ev.now _).eq ?_
              have e2 := bgo_some_app (hd := p) (t := []) (p := t) (cur := []) (fun c hc e => c2 (e ▸ hc))
              rw [List.append_nil] at e2
              rw [h1, bgo_none_app hp, bgo_open, List.nil_append, e2, bgo_nil]
              simp
            · rw [c3]
              have hxa : (s.extract 0 p.length).data.toList = p := by rw [ext_data, List.drop_zero, Nat.sub_zero, h1, List.take_left]
              have hul : u.length + q.length + 1 = t.length := by rw [c1]; simp; omega
              simp only [if_true, if_pos (show (p.length : Int) ≤ (s.size : Int) by omega), Int.toNat_natCast]
              rw [iTrim _ (by rw [sz, hxa]; omega), iTrim _ (by rw [sz, ba_data]; omega)]
              simp only [Option.bind_some, if_pos (show x3.length < 4398046511104 by omega)]
              rw [trimV_eq hxa, trimV_eq (ba_data q)]
              have ih := gBlocks n (ba u) (x3 ++ [mkBl (p, q)]) (by rw [sz, ba_data]; omega) (by omega) (by simp; omega)
              refine Ev.eq ih ?_
              rw [ba_data, h1, bgo_none_app hp, bgo_open, List.nil_append, c1, bgo_some_app (fun c hc e => c2 (e ▸ hc)), bgo_shut]
              simp
        · refine Ev.step (f := fun k => scan_Blocks.l0 k (s.extract (p.length + 1) s.size) x3) (fun k => ?_) ((gBlocks n (s.extract (p.length + 1) s.size) x3 hxs (by omega) (by omega)).eq ?_)
          · rw [scan_Blocks.l0, iAnyB s (by omega), h4, Option.bind_some, if_neg (by omega), if_pos (by omega), if_pos (by omega), g2, if_pos (by decide), w64s p.length (by omega), if_pos (by omega), if_pos (by omega), Int.toNat_natCast]
          · rw [hx2, h1, bgo_none_app hp, bgo_reset]
theorem bgo_len : ∀ (l : List UInt8) (o : Option (List UInt8)) (cur : List UInt8), (bgo o cur l).length ≤ l.length
  | [], o, cur => by rw [bgo_nil]; simp
  | c :: t, none, cur => by
    have i1 := bgo_len t (some cur) []
    have i2 := bgo_len t none []
    have i3 := bgo_len t none (cur ++ [c])
    unfold bgo
    split
    · simp; omega
    · split <;> simp <;> omega
  | c :: t, some h, cur => by
    have i2 := bgo_len t none []
    have i3 := bgo_len t (some h) (cur ++ [c])
    unfold bgo
    split <;> simp <;> omega
theorem gBlocks0 (s : ByteArray) (hs : s.size ≤ 100000) : Ev (fun k => scan_Blocks.f k s) ((bgo none [] s.data.toList).map mkBl) := Ev.eq (gBlocks s.size s [] (Nat.le_refl _) hs (by simp; omega)) (by simp)
theorem rd119 (bs : List (List UInt8 × List UInt8)) {i : Nat} (h : i < bs.length) : rd_T119 (bs.map mkBl) (i : Int) = mkBl bs[i] := by
  unfold rd_T119
  rw [Int.toNat_natCast, List.getD, List.getElem?_map, List.getElem?_eq_getElem h]
  rfl
/-! ### Read -/
abbrev RUL := S115
def ruleB (p : List UInt8 × List UInt8) : List RUL := if (listL ((spl 44 (trimL p.1)).map fun q => ba (trimL q)) []).2 = true then [⟨(listL ((spl 44 (trimL p.1)).map fun q => ba (trimL q)) []).1, (Sht.declsV (ba (trimL p.2))).map sheet_decls.it⟩] else []
def rulesOf (bs : List (List UInt8 × List UInt8)) : List RUL := bs.flatMap ruleB
def fullF (l : List RUL) : List RUL × Int := if 40 < l.length then ([], 3) else (l, 0)
def readF (s : ByteArray) : List RUL × Int := if 4000 < s.size then ([], 3) else fullF (rulesOf (bgo none [] (scn false s.data.toList)))
theorem bgo_mem : ∀ (l : List UInt8) (o : Option (List UInt8)) (cur : List UInt8), ∀ p ∈ bgo o cur l, p.1.length ≤ (o.getD []).length + cur.length + l.length ∧ p.2.length ≤ (o.getD []).length + cur.length + l.length
  | [], o, cur, p, hp => by rw [bgo_nil] at hp; cases hp
  | c :: t, none, cur, p, hp => by
    unfold bgo at hp
    have i1 := bgo_mem t (some cur) [] p
    have i2 := bgo_mem t none [] p
    have i3 := bgo_mem t none (cur ++ [c]) p
    simp only [Option.getD_none, Option.getD_some, List.length_nil, List.length_append, List.length_cons] at i1 i2 i3 ⊢
    split at hp
    · have := i1 hp; omega
    · split at hp
      · have := i2 hp; omega
      · have := i3 hp; omega
  | c :: t, some h, cur, p, hp => by
    unfold bgo at hp
    have i2 := bgo_mem t none [] p
    have i3 := bgo_mem t (some h) (cur ++ [c]) p
    simp only [Option.getD_none, Option.getD_some, List.length_nil, List.length_append, List.length_cons] at i2 i3 ⊢
    split at hp
    · rcases List.mem_cons.1 hp with rfl | hp
      · dsimp only; omega
      · have := i2 hp; omega
    · have := i3 hp; omega
theorem stripV_size (s : ByteArray) : (stripV s).size ≤ s.size := by
  have := scn_len s.size false s.data.toList (by rw [sz]; exact Nat.le_refl _)
  rw [← stripV_data, ← sz, ← sz] at this
  exact this
theorem rules_l (bs : List (List UInt8 × List UInt8)) (hb : bs.length ≤ 100000) (hs : ∀ p ∈ bs, p.1.length ≤ 30000 ∧ p.2.length ≤ 30000) : ∀ (d n : Nat) (acc : List RUL), n + d = bs.length → acc.length ≤ n → Ev (fun k => sheet_Read.l0 k acc (bs.map mkBl) ((bs.map mkBl).length : Int) (n : Int)) (fullF (acc ++ rulesOf (bs.drop n)))
  | 0, n, acc, h, ha => by
    obtain rfl : n = bs.length := by omega
    rw [List.drop_length, show rulesOf [] = [] from rfl, List.append_nil]
    unfold fullF
    by_cases c : 40 < acc.length
    · refine Ev.step (f := fun k => some (([] : List RUL), (3 : Int))) (fun k => by rw [sheet_Read.l0, if_neg (by rw [List.length_map]; omega), if_pos (by omega)]) ?_
      rw [if_pos c]
      exact Ev.now _
    · refine Ev.step (f := fun k => some (acc, (0 : Int))) (fun k => by rw [sheet_Read.l0, if_neg (by rw [List.length_map]; omega), if_neg (by omega)]) ?_
      rw [if_neg c]
      exact Ev.now _
  | d + 1, n, acc, h, ha => by
    have hn : n < bs.length := by omega
    obtain ⟨z1, z2⟩ := hs _ (List.getElem_mem hn)
    have q1 := trim_len bs[n].1
    have q2 := trim_len bs[n].2
    have hL := rList (ba (trimL bs[n].1)) (by rw [sz, ba_data]; omega)
    have hD := rDecls (ba (trimL bs[n].2)) (by rw [sz, ba_data]; omega)
    rw [ba_data] at hL
    rw [List.drop_eq_getElem_cons hn, show rulesOf (bs[n] :: bs.drop (n + 1)) = ruleB bs[n] ++ rulesOf (bs.drop (n + 1)) from List.flatMap_cons, ← List.append_assoc]
    have hB : ruleB bs[n] = if (listL ((spl 44 (trimL bs[n].1)).map fun q => ba (trimL q)) []).2 = true then [⟨(listL ((spl 44 (trimL bs[n].1)).map fun q => ba (trimL q)) []).1, (Sht.declsV (ba (trimL bs[n].2))).map sheet_decls.it⟩] else [] := rfl
    refine Ev.step (f := fun k => (selector_List.f k (ba (trimL bs[n].1))).bind fun b => (if b.2 = true then ((sheet_Decls.f k (ba (trimL bs[n].2))).bind fun t => (if acc.length < 2932031007402 then (sheet_Read.l0 k (acc ++ [(⟨b.1, t⟩ : RUL)]) (bs.map mkBl) ((bs.map mkBl).length : Int) (wrap64 ((n : Int) + 1))) else (none))) else (sheet_Read.l0 k acc (bs.map mkBl) ((bs.map mkBl).length : Int) (wrap64 ((n : Int) + 1))))) (fun k => by rw [sheet_Read.l0, if_pos (by rw [List.length_map]; omega), if_pos (by omega), if_pos (by rw [List.length_map]; omega), rd119 bs hn]; rfl) ?_
    refine Ev.bind hL ?_
    generalize listL ((spl 44 (trimL bs[n].1)).map fun q => ba (trimL q)) [] = L at hB ⊢
    by_cases c : L.2 = true
    · rw [if_pos c] at hB
      simp only [if_pos c]
      refine Ev.bind hD ?_
      simp only [if_pos (show acc.length < 2932031007402 by omega), w64s n (by omega)]
      rw [hB]
      exact rules_l bs hb hs d (n + 1) _ (by omega) (by simp; omega)
    · rw [if_neg c] at hB
      simp only [if_neg c, w64s n (by omega)]
      rw [hB, List.append_nil]
      exact rules_l bs hb hs d (n + 1) _ (by omega) (by omega)
theorem rReadS (s : ByteArray) (hs : s.size ≤ 140737488355328) : Ev (fun k => sheet_Read.f k s) (readF s) := by
  unfold readF sheet_Read.f
  by_cases c : 4000 < s.size
  · simp only [if_pos c, if_pos (show (s.size : Int) > 4000 by omega)]
    exact Ev.now _
  · have h1 := stripV_size s
    have h2 := gBlocks0 (stripV s) (by omega)
    have h3 := bgo_len (stripV s).data.toList none []
    have h4 := bgo_mem (stripV s).data.toList none []
    rw [stripV_data] at h2 h3 h4
    have h5 := sz (stripV s)
    rw [stripV_data] at h5
    simp only [if_neg c, if_neg (show ¬ ((s.size : Int) > 4000) by omega)]
    rw [show scan_Strip.f s = some (stripV s) by unfold scan_Strip.f; rw [if_pos (by omega)]]
    simp only [Option.bind_some]
    refine Ev.bind h2 ?_
    have hh := rules_l (bgo none [] (scn false s.data.toList)) (by omega) (fun p hp => by
      have := h4 p hp
      simp only [Option.getD_none, List.length_nil] at this
      omega) (bgo none [] (scn false s.data.toList)).length 0 [] (Nat.zero_add _) (by simp)
    rw [List.drop_zero, List.nil_append] at hh
    exact hh
end Go.Proofs.YtolfpgccebdlpaaGreatDoor.Pure
set_option linter.unusedVariables false
set_option linter.unusedSimpArgs false
namespace Go.Proofs.Sht
open Go Go.Lib Go.Proofs.Scn Go.Proofs.Tok
theorem scn_app : ∀ (p t : List UInt8), (47 : UInt8) ∉ p → scn false (p ++ t) = p ++ scn false t
  | [], t, _ => rfl
  | c :: p, t, h => by
    rw [List.cons_append, scn_go (fun e => h (by rw [e.1]; simp)), scn_app p t (fun hh => h (by simp [hh]))]
    rfl
def mkB (x : List UInt8 × List UInt8) : List UInt8 × List UInt8 := (trimL x.1, trimL x.2)
theorem nl_some : ∀ (t h b : List UInt8), (bgo (some (10 :: h)) b t).map mkB = (bgo (some h) b t).map mkB
  | [], h, b => by rw [bgo_nil, bgo_nil]
  | c :: t, h, b => by
    by_cases hc : c = 125
    · subst hc
      rw [bgo_shut, bgo_shut, List.map_cons, List.map_cons]
      congr 1
      unfold mkB
      rw [trim_cons (c := 10) rfl]
    · rw [bgo_some hc, bgo_some hc, nl_some t h (b ++ [c])]
theorem nl_none : ∀ (t cur : List UInt8), (bgo none (10 :: cur) t).map mkB = (bgo none cur t).map mkB
  | [], cur => by rw [bgo_nil, bgo_nil]
  | c :: t, cur => by
    by_cases h1 : c = 123
    · subst h1
      rw [bgo_open, bgo_open, nl_some]
    · by_cases h2 : c = 125
      · subst h2
        rw [bgo_reset, bgo_reset]
      · rw [bgo_none h1 h2, bgo_none h1 h2, List.cons_append, nl_none t (cur ++ [c])]
theorem bgo_piece {H B t : List UInt8} (h : ∀ c ∈ H, c ≠ 123 ∧ c ≠ 125) (b : ∀ c ∈ B, c ≠ 125) : bgo none [] (H ++ 123 :: (B ++ 125 :: t)) = (H, B) :: bgo none [] t := by
  rw [bgo_none_app h, bgo_open, List.nil_append, bgo_some_app b, bgo_shut, List.nil_append]
/-- no brace in the printed selectors, no closing one in the declarations, no slash in either -/
def okR (r : Rl) : Prop := (∀ c ∈ selsN r.1 r.1.length, c ≠ 123 ∧ c ≠ 125 ∧ c ≠ 47) ∧ ∀ c ∈ r.2.flatMap declL, c ≠ 125 ∧ c ≠ 47
theorem rule_split (r : Rl) (t : List UInt8) : ruleL r ++ t = (selsN r.1 r.1.length ++ [32]) ++ 123 :: ((r.2.flatMap declL ++ [32]) ++ 125 :: (10 :: t)) := by
  unfold ruleL
  simp
theorem blocks_rules : ∀ (l : List Rl), (∀ r ∈ l, okR r) → ∀ t, (bgo none [] (l.flatMap ruleL ++ t)).map mkB = (l.map fun r => mkB (selsN r.1 r.1.length ++ [32], r.2.flatMap declL ++ [32])) ++ (bgo none [] t).map mkB
  | [], _, t => rfl
  | r :: l, h, t => by
    obtain ⟨h1, h2⟩ := h r (by simp)
    have a : ∀ c ∈ selsN r.1 r.1.length ++ [32], c ≠ 123 ∧ c ≠ 125 := fun c hc => by
      rcases List.mem_append.1 hc with hc | hc
      · exact ⟨(h1 c hc).1, (h1 c hc).2.1⟩
      · rw [List.mem_singleton] at hc
        subst hc
        decide
    have b : ∀ c ∈ r.2.flatMap declL ++ [32], c ≠ 125 := fun c hc => by
      rcases List.mem_append.1 hc with hc | hc
      · exact (h2 c hc).1
      · rw [List.mem_singleton] at hc
        subst hc
        decide
    rw [List.flatMap_cons, List.append_assoc, rule_split, bgo_piece a b, List.map_cons, List.map_cons, List.cons_append]
    congr 1
    have hn : bgo none [] (10 :: (l.flatMap ruleL ++ t)) = bgo none [10] (l.flatMap ruleL ++ t) := by rw [bgo_none (by decide) (by decide)]; rfl
    rw [hn, nl_none, blocks_rules l (fun x hx => h x (by simp [hx])) t]
theorem rules_47 (l : List Rl) (h : ∀ r ∈ l, okR r) : (47 : UInt8) ∉ l.flatMap ruleL := by
  intro hm
  obtain ⟨r, hr, hc⟩ := List.mem_flatMap.1 hm
  obtain ⟨h1, h2⟩ := h r hr
  unfold ruleL at hc
  rcases List.mem_append.1 hc with hc | hc
  · exact (h1 _ hc).2.2 rfl
  · simp only [List.mem_cons, List.mem_append, List.not_mem_nil, or_false] at hc
    rcases hc with hc | hc | hc | hc | hc | hc
    · exact absurd hc (by decide)
    · exact absurd hc (by decide)
    · obtain ⟨d, hd, hdc⟩ := List.mem_flatMap.1 hc
      exact (h2 47 (List.mem_flatMap.2 ⟨d, hd, hdc⟩)).2 rfl
    · exact absurd hc (by decide)
    · exact absurd hc (by decide)
    · exact absurd hc (by decide)
/-- what is stripped and parted: the rules' own blocks, then the text's -/
theorem blocks_joined (l : List Rl) (h : ∀ r ∈ l, okR r) (s : List UInt8) : (bgo none [] (scn false (l.flatMap ruleL ++ s))).map mkB = (l.map fun r => mkB (selsN r.1 r.1.length ++ [32], r.2.flatMap declL ++ [32])) ++ (bgo none [] (scn false s)).map mkB := by
  rw [scn_app _ _ (rules_47 l h), blocks_rules l h]
end Go.Proofs.Sht
set_option linter.unusedVariables false
set_option linter.unusedSimpArgs false
namespace Go.Proofs.Sht
open Go Go.Lib Go.Proofs.Scn
end Go.Proofs.Sht
set_option linter.unusedVariables false
set_option linter.unusedSimpArgs false
namespace Go.Proofs.Sht
open Go Go.Lib Go.Proofs.Scn
/-! ### the short name -/
theorem first_eq {c : UInt8} : ∀ {p q t u : List UInt8}, c ∉ p → c ∉ q → p ++ c :: t = q ++ c :: u → p = q ∧ t = u
  | [], [], t, u, _, _, h => by simpa using h
  | [], b :: q, t, u, _, h2, h => by
    rw [List.nil_append, List.cons_append] at h
    exact absurd (List.cons.inj h).1 (fun e => h2 (by rw [e]; simp))
  | a :: p, [], t, u, h1, _, h => by
    rw [List.nil_append, List.cons_append] at h
    exact absurd (List.cons.inj h).1 (fun e => h1 (by rw [e]; simp))
  | a :: p, b :: q, t, u, h1, h2, h => by
    rw [List.cons_append, List.cons_append] at h
    obtain ⟨e1, e2⟩ := List.cons.inj h
    obtain ⟨e3, e4⟩ := first_eq (fun hh => h1 (by simp [hh])) (fun hh => h2 (by simp [hh])) e2
    exact ⟨by rw [e1, e3], e4⟩
theorem cut_first {c : UInt8} {p t : List UInt8} (h : c ∉ p) : Lib.cut (p ++ c :: t) [c] = (p, t, true) := by
  rcases cut_spec c (p ++ c :: t) with ⟨_, h2⟩ | ⟨q, u, h1, h2, h3⟩
  · exact absurd (by simp) h2
  · obtain ⟨rfl, rfl⟩ := first_eq h h2 h1
    exact h3
end Go.Proofs.Sht
set_option linter.unusedVariables false
set_option linter.unusedSimpArgs false
namespace Go.Proofs.Sht
open Go Go.Lib Go.Proofs.Scn
/-- a byte of a value's text -/
def niceB (c : UInt8) : Bool := Val.plainB c && (c != 33) && (c != 47) && (c != 58) && (c != 59) && (c != 123) && (c != 125)
theorem nice_dig {c : UInt8} (h : Val.isDig c = true) : niceB c = true := by
  have : ∀ i : Fin 10, niceB (UInt8.ofNat (48 + i.val)) = true := by decide +kernel
  rw [Val.isDig_iff] at h
  have hc := this ⟨c.toNat - 48, by omega⟩
  have e : UInt8.ofNat (48 + (c.toNat - 48)) = c := by rw [show 48 + (c.toNat - 48) = c.toNat by omega]; simp
  rwa [e] at hc
theorem nice_decL (n : Int) : ∀ c ∈ Val.decL n, niceB c = true := fun c hc => by
  rcases Val.decL_in n c hc with rfl | rfl | h
  · decide
  · decide
  · exact nice_dig h
theorem nice_hex (n : Nat) : ∀ c ∈ Val.hexL n, niceB c = true := by
  have q : ∀ i : Fin 16, niceB (Val.hexD i.val) = true := by decide +kernel
  have q2 := fun m : Nat => q ⟨m % 16, by omega⟩
  intro c hc
  simp only [Val.hexL, List.mem_cons, List.mem_nil_iff, or_false] at hc
  rcases hc with rfl | rfl | rfl | rfl | rfl | rfl <;> exact q2 _
theorem nice_words : ∀ p : Fin 27, ∀ i : Fin 4, i.val < (Val.wordsP p.val).length → (∀ c ∈ ((Val.wordsP p.val).getD i.val ByteArray.empty).data.toList, niceB c = true) ∧ ((Val.wordsP p.val).getD i.val ByteArray.empty).data.toList ≠ [] := by decide +kernel
theorem nice_print (p k n : Int) (h : Val.mayV (Val.cl p) k n = true) : ∀ c ∈ (Val.printV p k n).data.toList, niceB c = true := by
  have hP : Val.printL (Val.cl p) k n = (if k = 1 then Val.autoW else if k = 4 then 35 :: Val.hexL n.toNat else if k = 5 then ((Val.wordsP (Val.cl p)).getD n.toNat ByteArray.empty).data.toList
      else if k = 2 then Val.decL n ++ [112, 120] else if k = 3 then Val.decL n ++ [37] else Val.decL n) := by unfold Val.printL; rw [if_pos h]
  have e : (Val.printV p k n).data.toList = Val.printL (Val.cl p) k n := by unfold Val.printV; simp
  rw [e, hP]
  rcases Val.may_kinds h with ⟨rfl, rfl, ha⟩ | ⟨rfl, h1, h2, ha⟩ | ⟨rfl, h1, h2, ha⟩ | ⟨rfl, h1, h2, ha⟩ | ⟨rfl, h1, h2⟩ | ⟨rfl, h1, h2, ha⟩
  · rw [if_pos rfl]; decide
  · rw [if_neg (by omega), if_neg (by omega), if_neg (by omega), if_pos rfl]
    intro c hc
    rcases List.mem_append.1 hc with hc | hc
    · exact nice_decL n c hc
    · simp only [List.mem_cons, List.mem_nil_iff, or_false] at hc
      rcases hc with rfl | rfl <;> decide
  · rw [if_neg (by omega), if_neg (by omega), if_neg (by omega), if_neg (by omega), if_pos rfl]
    intro c hc
    rcases List.mem_append.1 hc with hc | hc
    · exact nice_decL n c hc
    · rw [List.mem_singleton] at hc
      subst hc
      decide
  · rw [if_neg (by omega), if_pos rfl]
    intro c hc
    rcases List.mem_cons.1 hc with rfl | hc
    · decide
    · exact nice_hex _ c hc
  · rw [if_neg (by omega), if_neg (by omega), if_pos rfl]
    rw [Val.wordsP_len _ (Val.cl_le p)] at h2
    have := Val.wordsP_le (Val.cl p)
    exact (nice_words ⟨Val.cl p, Val.cl_lt p⟩ ⟨n.toNat, by omega⟩ (by show n.toNat < (Val.wordsP (Val.cl p)).length; omega)).1
  · rw [if_neg (by omega), if_neg (by omega), if_neg (by omega), if_neg (by omega), if_neg (by omega)]
    exact nice_decL n
/-! ### names -/
theorem names_ok : ∀ q : Fin 26, (∀ c ∈ (Val.nameP (q.val + 1 : Nat)).data.toList, niceB c = true) ∧ (Val.nameP (q.val + 1 : Nat)).data.toList ≠ [] ∧ propsV (Val.nameP (q.val + 1 : Nat)) = (((q.val + 1 : Nat) : Int), 1) := by decide +kernel
theorem may_zero : (Val.rec0 0).auto = false ∧ (Val.rec0 0).length = false ∧ (Val.rec0 0).part = false ∧ (Val.rec0 0).color = false ∧ (Val.rec0 0).number = false ∧ (Val.wordsP 0).length = 0 := by decide +kernel
theorem cl_pos (p k n : Int) (h : Val.mayV (Val.cl p) k n = true) : Val.cl p ≠ 0 := by
  intro h0
  rw [h0] at h
  obtain ⟨z1, z2, z3, z4, z5, z6⟩ := may_zero
  rcases Val.may_kinds h with ⟨rfl, rfl, ha⟩ | ⟨rfl, h1, h2, ha⟩ | ⟨rfl, h1, h2, ha⟩ | ⟨rfl, h1, h2, ha⟩ | ⟨rfl, h1, h2⟩ | ⟨rfl, h1, h2, ha⟩
  · rw [z1] at ha; cases ha
  · rw [z2] at ha; cases ha
  · rw [z3] at ha; cases ha
  · rw [z4] at ha; cases ha
  · rw [Val.wordsP_len _ (by omega)] at h2
    rw [z6] at h2
    omega
  · rw [z5] at ha; cases ha
theorem print_ne (p k n : Int) (h : Val.mayV (Val.cl p) k n = true) : (Val.printV p k n).data.toList ≠ [] := by
  intro he
  have h1 := Val.back_read p k n h
  have e : Val.printV p k n = ⟨#[]⟩ := ba_ext (by rw [he])
  rw [e] at h1
  have h2 := Val.fin_empty ⟨Val.cl p, Val.cl_lt p⟩
  have h3 : (Val.readV p ⟨#[]⟩).2 = false := h2
  rw [h1] at h3
  cases h3
/-- the property of one that may be -/
theorem prop_of (p k n : Int) (h : Val.mayV (Val.cl p) k n = true) : p = (Val.cl p : Int) ∧ 1 ≤ Val.cl p ∧ Val.cl p ≤ 26 := by
  have h0 := cl_pos p k n h
  have h1 := Val.cl_lt p
  refine ⟨?_, by omega, by omega⟩
  by_cases hr : 1 ≤ p ∧ p ≤ 26
  · rw [Val.cl_in hr.1 hr.2]; omega
  · exact absurd (Val.cl_out hr) h0
theorem nice_all : ∀ i : Fin 256, niceB (UInt8.ofNat i.val) = true → isB (UInt8.ofNat i.val) = false ∧ lowB (UInt8.ofNat i.val) = UInt8.ofNat i.val ∧ UInt8.ofNat i.val ≠ 33 ∧ UInt8.ofNat i.val ≠ 47 ∧ UInt8.ofNat i.val ≠ 58 ∧ UInt8.ofNat i.val ≠ 59 ∧ UInt8.ofNat i.val ≠ 123 ∧ UInt8.ofNat i.val ≠ 125 := by decide +kernel
theorem nice_of {c : UInt8} (h : niceB c = true) : isB c = false ∧ lowB c = c ∧ c ≠ 33 ∧ c ≠ 47 ∧ c ≠ 58 ∧ c ≠ 59 ∧ c ≠ 123 ∧ c ≠ 125 := by
  have e : UInt8.ofNat c.toNat = c := by simp
  have := nice_all ⟨c.toNat, c.toNat_lt⟩
  rw [e] at this
  exact this h
theorem nice_low {l : List UInt8} (h : ∀ c ∈ l, niceB c = true) : l.map lowB = l := by
  induction l with
  | nil => rfl
  | cons c l ih =>
    rw [List.map_cons, (nice_of (h c (by simp))).2.1, ih (fun x hx => h x (by simp [hx]))]
theorem suf_33 {l m : List UInt8} (h : (33 : UInt8) ∉ l) (hm : (33 : UInt8) ∈ m) : Lib.hasSuffix l m = false := by
  cases he : Lib.hasSuffix l m with
  | false => rfl
  | true =>
    exfalso
    apply h
    unfold Lib.hasSuffix at he
    obtain ⟨x, hx⟩ := List.isSuffixOf_iff_suffix.1 he
    rw [← hx]
    exact List.mem_append_right _ hm
def tailS (s : Bool) : List UInt8 := if s = true then 32 :: strongW else []
theorem one_decl (p k n : Int) (s : Bool) (h : Val.mayV (Val.cl p) k n = true) : (59 : UInt8) ∉ nameD (p, k, n, s) ++ tailS s ∧ partD (nameD (p, k, n, s) ++ tailS s) = [(p, k, n, s)] := by
  obtain ⟨hp, hp1, hp26⟩ := prop_of p k n h
  obtain ⟨N1, N2, N3⟩ := names_ok ⟨Val.cl p - 1, by omega⟩
  have ecl : ((Val.cl p - 1 + 1 : Nat) : Int) = p := by omega
  simp only [ecl] at N1 N2 N3
  have V1 := nice_print p k n h
  have V2 := print_ne p k n h
  have V3 := Val.back_read p k n h
  obtain ⟨nm, hnm⟩ : ∃ l, (Val.nameP p).data.toList = l := ⟨_, rfl⟩
  obtain ⟨pv, hpv⟩ : ∃ l, (Val.printV p k n).data.toList = l := ⟨_, rfl⟩
  obtain ⟨sp, hsp⟩ : ∃ l, tailS s = l := ⟨_, rfl⟩
  have hA : nameD (p, k, n, s) ++ tailS s = 32 :: (nm ++ 58 :: (32 :: (pv ++ sp))) := by
    unfold nameD
    rw [hnm, hpv, hsp]
    simp
  have eN : Val.nameP p = ba nm := by rw [← hnm, data_ba]
  have eV : Val.printV p k n = ba pv := by rw [← hpv, data_ba]
  rw [hnm] at N1 N2
  rw [hpv] at V1 V2
  rw [eN] at N3
  rw [eV] at V3
  have hcase : (s = false ∧ sp = []) ∨ (s = true ∧ sp = 32 :: strongW) := by
    cases s with
    | false => exact .inl ⟨rfl, hsp.symm⟩
    | true => exact .inr ⟨rfl, hsp.symm⟩
  have hs59 : (59 : UInt8) ∉ sp ∧ (58 : UInt8) ∉ sp := by
    rcases hcase with ⟨_, rfl⟩ | ⟨_, rfl⟩
    · simp
    · decide
  have n58 : (58 : UInt8) ∉ nm := fun hc => (nice_of (N1 _ hc)).2.2.2.2.1 rfl
  have n59 : (59 : UInt8) ∉ nm := fun hc => (nice_of (N1 _ hc)).2.2.2.2.2.1 rfl
  have v59 : (59 : UInt8) ∉ pv := fun hc => (nice_of (V1 _ hc)).2.2.2.2.2.1 rfl
  have v33 : (33 : UInt8) ∉ pv := fun hc => (nice_of (V1 _ hc)).2.2.1 rfl
  have hlast : ∃ y c, pv ++ sp = y ++ [c] ∧ isB c = false := by
    rcases hcase with ⟨_, rfl⟩ | ⟨_, rfl⟩
    · refine ⟨pv.dropLast, pv.getLast V2, by rw [List.append_nil, List.dropLast_concat_getLast], (nice_of (V1 _ (List.getLast_mem V2))).1⟩
    · exact ⟨pv ++ 32 :: [33, 105, 109, 112, 111, 114, 116, 97, 110], 116, by simp [strongW], rfl⟩
  obtain ⟨y, c, hy, hcb⟩ := hlast
  have headP : ∀ b, (pv ++ sp).head? = some b → isB b = false := fun b hb => by
    cases pv with
    | nil => exact absurd rfl V2
    | cons a r =>
      rw [List.cons_append, List.head?_cons] at hb
      rw [← Option.some.inj hb]
      exact (nice_of (V1 a (by simp))).1
  have tP : trimL (pv ++ sp) = pv ++ sp := trim_tidy ⟨headP, fun b hb => by
    rw [hy, List.getLast?_concat] at hb
    rw [← Option.some.inj hb]
    exact hcb⟩
  have tY : trimL (nm ++ 58 :: (32 :: (pv ++ sp))) = nm ++ 58 :: (32 :: (pv ++ sp)) := trim_tidy ⟨fun b hb => by
    cases nm with
    | nil => exact absurd rfl N2
    | cons a r =>
      rw [List.cons_append, List.head?_cons] at hb
      rw [← Option.some.inj hb]
      exact (nice_of (N1 a (by simp))).1, fun b hb => by
    rw [hy, show nm ++ (58 : UInt8) :: (32 :: (y ++ [c])) = (nm ++ 58 :: (32 :: y)) ++ [c] by simp, List.getLast?_concat] at hb
    rw [← Option.some.inj hb]
    exact hcb⟩
  have tN : trimL nm = nm := trim_tidy ⟨fun b hb => (nice_of (N1 b (List.mem_of_mem_head? hb))).1, fun b hb => (nice_of (N1 b (List.mem_of_getLast? hb))).1⟩
  refine ⟨?_, ?_⟩
  · rw [hA]
    simp [n59, v59, hs59.1]
  rw [hA]
  unfold partD
  rw [trim_cons (c := 32) rfl, tY]
  have hcut : Lib.cut (ba (nm ++ 58 :: (32 :: (pv ++ sp)))).data.toList [58] = (nm, 32 :: (pv ++ sp), true) := by rw [ba_data]; exact cut_first n58
  have hN : lowV (trimV (ba nm)) = ba nm := ba_ext (by rw [lowV_data, trimV_data, ba_data, tN, nice_low N1])
  have hlow : (pv ++ sp).map lowB = pv ++ sp := by
    rw [List.map_append, nice_low V1]
    rcases hcase with ⟨_, rfl⟩ | ⟨_, rfl⟩
    · rfl
    · congr 1
  have ht : (lowV (trimV (ba (32 :: (pv ++ sp))))).data.toList = pv ++ sp := by
    rw [lowV_data, trimV_data, ba_data, trim_cons (c := 32) rfl, tP, hlow]
  have hsuf : Lib.hasSuffix (pv ++ sp) strongW = s ∧ Val.readV p (ba (Lib.trimSuffix (pv ++ sp) strongW)) = ((k, n), true) := by
    rcases hcase with ⟨rfl, rfl⟩ | ⟨rfl, rfl⟩
    · rw [List.append_nil]
      have hns := suf_33 v33 (m := strongW) (by decide)
      refine ⟨hns, ?_⟩
      unfold Lib.trimSuffix
      rw [hns]
      exact V3
    · have e : pv ++ 32 :: strongW = (pv ++ [32]) ++ strongW := by simp
      rw [e]
      obtain ⟨q1, q2⟩ := Val.suf_app (pv ++ [32]) strongW
      refine ⟨q1, ?_⟩
      rw [q2]
      have e2 : trimV (ba (pv ++ [32])) = trimV (ba pv) := ba_ext (by rw [trimV_data, trimV_data, ba_data, ba_data, trim_snoc (c := 32) rfl])
      unfold Val.readV at V3 ⊢
      rw [e2]
      exact V3
  have hp0 : p ≠ 0 := by omega
  unfold declV
  dsimp only
  rw [hcut]
  dsimp only
  rw [hN, N3, if_pos ⟨rfl, hp0⟩, ht, hsuf.1]
  have hts : textsV (p, (1 : Int)).2 (ba (Lib.trimSuffix (pv ++ sp) strongW)) = [ba (Lib.trimSuffix (pv ++ sp) strongW)] := rfl
  rw [hts, if_pos ⟨by simp, by simp⟩]
  show valsV p [ba (Lib.trimSuffix (pv ++ sp) strongW)] s (sharedV 1) 1 0 [] = _
  have hx : ([ba (Lib.trimSuffix (pv ++ sp) strongW)] : List ByteArray).getD ((sharedV 1).getD 0 0) ByteArray.empty = ba (Lib.trimSuffix (pv ++ sp) strongW) := rfl
  rw [valsV, hx]
  have e0 : p + ((0 : Nat) : Int) = p := by omega
  rw [e0, hsuf.2]
  rfl
end Go.Proofs.Sht
set_option linter.unusedVariables false
set_option linter.unusedSimpArgs false
namespace Go.Proofs.Sht
open Go Go.Lib Go.Proofs.Scn
theorem trim_nil : trimL [] = [] := by decide
/-- what hangs on the parts' trimmed texts alone doesn't hang on blanks about the whole -/
theorem parts_trim {c : UInt8} (hc : isB c = false) : ∀ (n : Nat) (X : List UInt8), X.length ≤ n → (spl c (trimL X)).map trimL = (spl c X).map trimL
  | 0, X, h => by
    have : X = [] := List.length_eq_zero_iff.1 (by omega)
    rw [this, trim_nil]
  | n + 1, X, h => by
    cases X with
    | nil => rw [trim_nil]
    | cons a t =>
      by_cases ha : isB a = true
      · have hac : a ≠ c := fun e => by rw [e, hc] at ha; cases ha
        obtain ⟨p, r, e⟩ := spl_ne c t
        rw [trim_cons ha, parts_trim hc n t (by simp at h; omega), spl_step hac e, e, List.map_cons, List.map_cons, trim_cons ha]
      · rw [Bool.not_eq_true] at ha
        rcases List.eq_nil_or_concat (a :: t) with e0 | ⟨y, b, e0⟩
        · cases e0
        · have e1 : a :: t = y ++ [b] := by rw [e0, List.concat_eq_append]
          by_cases hb : isB b = true
          · have hbc : b ≠ c := fun e => by rw [e, hc] at hb; cases hb
            obtain ⟨xs, z, h1, h2⟩ := spl_snoc hbc y
            have hl : y.length ≤ n := by
              have := congrArg List.length e1
              simp at this h
              omega
            rw [e1, trim_snoc hb, parts_trim hc n y hl, h1, h2, List.map_append, List.map_append, List.map_cons, List.map_cons, trim_snoc hb]
          · rw [Bool.not_eq_true] at hb
            have ht : trimL (a :: t) = a :: t := trim_tidy ⟨fun q hq => by
              rw [List.head?_cons] at hq
              rw [← Option.some.inj hq]
              exact ha, fun q hq => by
              rw [e1, List.getLast?_concat] at hq
              rw [← Option.some.inj hq]
              exact hb⟩
            rw [ht]
theorem decls_parts (X : List UInt8) : (spl 59 X).flatMap partD = ((spl 59 X).map trimL).flatMap fun p => declV (ba p) := by
  rw [List.flatMap_map]
  rfl
theorem decls_trim (X : List UInt8) : (spl 59 (trimL X)).flatMap partD = (spl 59 X).flatMap partD := by
  rw [decls_parts, decls_parts, parts_trim (by decide) _ X (Nat.le_refl _)]
theorem declL_A (p k n : Int) (s : Bool) : declL (p, k, n, s) = (nameD (p, k, n, s) ++ tailS s) ++ [59] := by
  unfold declL tailS
  simp
theorem body_list : ∀ ds : List Dc, (∀ d ∈ ds, mayDc d = true) → ∀ t, (spl 59 (ds.flatMap declL ++ t)).flatMap partD = ds ++ (spl 59 t).flatMap partD
  | [], _, t => rfl
  | (p, k, n, s) :: ds, h, t => by
    have hm : Val.mayV (Val.cl p) k n = true := h (p, k, n, s) (by simp)
    obtain ⟨h1, h2⟩ := one_decl p k n s hm
    have e : ((p, k, n, s) :: ds).flatMap declL ++ t = (nameD (p, k, n, s) ++ tailS s) ++ 59 :: (ds.flatMap declL ++ t) := by
      rw [List.flatMap_cons, declL_A]
      simp
    rw [e, spl_app, List.flatMap_append, spl_none h1, List.flatMap_cons, List.flatMap_nil, List.append_nil, h2, body_list ds (fun d hd => h d (by simp [hd])) t]
    rfl
/-- a body's declarations, as the block tells it -/
theorem body_back (ds : List Dc) (h : ∀ d ∈ ds, mayDc d = true) : declsV (ba (trimL (ds.flatMap declL ++ [32]))) = ds := by
  unfold declsV
  rw [ba_data, decls_trim, body_list ds h]
  have : (spl 59 ([32] : List UInt8)).flatMap partD = [] := by decide +kernel
  rw [this, List.append_nil]
/-! ### the selectors between commas -/
theorem sels_parts (ss : List Sel) (hp : ∀ s ∈ ss, (44 : UInt8) ∉ (Tok.printV s.1 s.2).data.toList ∧ trimL (Tok.printV s.1 s.2).data.toList = (Tok.printV s.1 s.2).data.toList) : ∀ k, 0 < k → k ≤ ss.length → (spl 44 (selsN ss k)).map trimL = (ss.take k).map fun s => (Tok.printV s.1 s.2).data.toList
  | 0, h, _ => by omega
  | k + 1, _, hk => by
    have hlt : k < ss.length := by omega
    have hg : ss.getD k zSel = ss[k] := by rw [List.getD, List.getElem?_eq_getElem hlt]; rfl
    obtain ⟨h1, h2⟩ := hp _ (List.getElem_mem hlt)
    rw [selsN, hg, List.take_succ_eq_append_getElem hlt, List.map_append, List.map_cons, List.map_nil]
    by_cases k0 : k = 0
    · subst k0
      rw [if_pos rfl]
      have e0 : selsN ss 0 = [] := rfl
      rw [e0, List.nil_append, List.nil_append, spl_none h1, List.map_cons, List.map_nil, h2]
      rfl
    · have ih := sels_parts ss hp k (by omega) (by omega)
      rw [if_neg k0]
      have h1' : (44 : UInt8) ∉ 32 :: (Tok.printV ss[k].1 ss[k].2).data.toList := by simp [h1]
      have e : selsN ss k ++ ([44, 32] ++ (Tok.printV ss[k].1 ss[k].2).data.toList) = selsN ss k ++ 44 :: (32 :: (Tok.printV ss[k].1 ss[k].2).data.toList) := by simp
      rw [e, spl_app, List.map_append, ih, spl_none h1', List.map_cons, List.map_nil, trim_cons (c := 32) rfl, h2]
theorem head_parts (ss : List Sel) (h0 : 0 < ss.length) (hp : ∀ s ∈ ss, (44 : UInt8) ∉ (Tok.printV s.1 s.2).data.toList ∧ trimL (Tok.printV s.1 s.2).data.toList = (Tok.printV s.1 s.2).data.toList) : (spl 44 (trimL (selsN ss ss.length ++ [32]))).map trimL = ss.map fun s => (Tok.printV s.1 s.2).data.toList := by
  have e : trimL (selsN ss ss.length ++ [32]) = trimL (selsN ss ss.length) := trim_snoc (c := 32) rfl
  rw [e, parts_trim (by decide) _ _ (Nat.le_refl _), sels_parts ss hp _ h0 (Nat.le_refl _), List.take_length]
end Go.Proofs.Sht
set_option linter.unusedVariables false
set_option linter.unusedSimpArgs false
namespace Go.Proofs.YtolfpgccebdlpaaGreatDoor.Pure
open Go.RowKit Go.Proofs.YtolfpgccebdlpaaGreatDoor.HT Go.Proofs.YtolfpgccebdlpaaGreatDoorW.PrintWords Go.Proofs.YtolfpgccebdlpaaGreatDoorW.PrintLast Go.Proofs.YtolfpgccebdlpaaGreatDoorW.PrintMore Go.Proofs.Scn Go.Proofs.Tok
open Go.Proofs.Sht (Sel Rl Dc mayR mayL maySel mayDc selsN declL ruleL printR addS wP wS wR okSel sizR fitR txtR lenR fitS txtS lenS)
/-! ### printed selectors between commas -/
def ofSmp (x : Smp) : S80 := ⟨x.1, x.2.1, x.2.2.1, x.2.2.2.1, x.2.2.2.2⟩
def ofSel (s : Sel) : SEL := ⟨s.1.map ofSmp, s.2⟩
def ofR (r : Rl) : RUL := ⟨r.1.map ofSel, r.2.map sheet_decls.it⟩
abbrev toR : RUL → Rl := sheet_May.it
theorem smp_of (l : List Smp) : (l.map ofSmp).map it = l := by rw [List.map_map]; exact List.map_id' l
theorem to_of (r : Rl) : toR (ofR r) = r := by
  obtain ⟨ss, ds⟩ := r
  have e1 : (ss.map ofSel).map sheet_May.sel = ss := by
    rw [List.map_map]
    refine Eq.trans (List.map_congr_left fun s _ => ?_) (List.map_id' ss)
    show ((s.1.map ofSmp).map sheet_May.smp, s.2) = s
    rw [show (s.1.map ofSmp).map sheet_May.smp = s.1 from smp_of s.1]
  have e2 : (ds.map sheet_decls.it).map sheet_May.dc = ds := by rw [List.map_map]; exact List.map_id' ds
  show ((ss.map ofSel).map sheet_May.sel, (ds.map sheet_decls.it).map sheet_May.dc) = (ss, ds)
  rw [e1, e2]
theorem map_to_of (l : List Rl) : (l.map ofR).map toR = l := by
  rw [List.map_map]
  exact Eq.trans (List.map_congr_left fun r _ => to_of r) (List.map_id' l)
theorem pl_of (s : Sel) : PL (ofSel s) = (printV s.1 s.2).data.toList := by
  show (printV ((s.1.map ofSmp).map it) s.2).data.toList = _
  rw [smp_of]
theorem may_of (s : Sel) : mayB (ofSel s) = maySel s := by
  show mayS ((s.1.map ofSmp).map it) s.2.length = _
  rw [smp_of]
  rfl
theorem okT_out {c : UInt8} (h : okT c = true) : c ≠ 123 ∧ c ≠ 125 ∧ c ≠ 47 := by
  have := all256 (fun c => !okT c || ((c != 123) && ((c != 125) && (c != 47)))) (by decide +kernel) c
  simp only [h, Bool.not_true, Bool.false_or, Bool.and_eq_true, bne_iff_ne, ne_eq] at this
  exact this
theorem pl_out : ∀ (xs : List Smp) (bs : List Bool), (∀ x ∈ xs, mayX x = true) → ∀ c ∈ pl xs bs, c ≠ 123 ∧ c ≠ 125 ∧ c ≠ 47
  | [], bs, _, c, hc => by simp [pl] at hc
  | x :: xs, [], _, c, hc => by simp [pl] at hc
  | x :: xs, b :: bs, h, c, hc => by
    rw [pl] at hc
    rcases List.mem_append.1 hc with hc | hc
    · have : ∀ (b : Bool), ∀ c ∈ sp b, c ≠ 123 ∧ c ≠ 125 ∧ c ≠ 47 := by decide
      exact this b c hc
    · rcases List.mem_append.1 hc with hc | hc
      · exact okT_out ((T_ok (h x (by simp))).2 c hc)
      · exact pl_out xs bs (fun y hy => h y (by simp [hy])) c hc
theorem print_out (xs : List Smp) (bs : List Bool) : ∀ c ∈ (printV xs bs).data.toList, c ≠ 123 ∧ c ≠ 125 ∧ c ≠ 47 := by
  cases h : mayS xs bs.length with
  | false => rw [print_empty h]; intro c hc; simp at hc
  | true =>
    cases xs with
    | nil => exact absurd rfl (mayS_parts h).1
    | cons y ys =>
      obtain ⟨_, _, _, hm⟩ := mayS_parts h
      rw [print_data h]
      intro c hc
      rcases List.mem_append.1 hc with hc | hc
      · exact okT_out ((T_ok (hm y (by simp))).2 c hc)
      · exact pl_out ys bs (fun z hz => hm z (by simp [hz])) c hc
theorem sels_out (ss : List Sel) : ∀ k, ∀ c ∈ selsN ss k, c ≠ 123 ∧ c ≠ 125 ∧ c ≠ 47
  | 0, c, hc => by simp [selsN] at hc
  | k + 1, c, hc => by
    rw [selsN] at hc
    rcases List.mem_append.1 hc with hc | hc
    · exact sels_out ss k c hc
    · rcases List.mem_append.1 hc with hc | hc
      · split at hc
        · simp at hc
        · simp only [List.mem_cons, List.not_mem_nil, or_false] at hc
          rcases hc with rfl | rfl <;> decide
      · exact print_out _ _ c hc
theorem decls_out (ds : List Dc) (h : ∀ d ∈ ds, mayDc d = true) : ∀ c ∈ ds.flatMap declL, c ≠ 125 ∧ c ≠ 47 := by
  intro c hc
  obtain ⟨⟨p, k, n, s⟩, hd, hc⟩ := List.mem_flatMap.1 hc
  have hm : Val.mayV (Val.cl p) k n = true := h _ hd
  obtain ⟨hp, hp1, hp26⟩ := Sht.prop_of p k n hm
  obtain ⟨N1, _, _⟩ := Sht.names_ok ⟨Val.cl p - 1, by omega⟩
  have ecl : ((Val.cl p - 1 + 1 : Nat) : Int) = p := by omega
  simp only [ecl] at N1
  have V1 := Sht.nice_print p k n hm
  rw [Sht.declL_A] at hc
  rcases List.mem_append.1 hc with hc | hc
  · rcases List.mem_append.1 hc with hc | hc
    · unfold Sht.nameD at hc
      rcases List.mem_cons.1 hc with rfl | hc
      · decide
      · rcases List.mem_append.1 hc with hc | hc
        · have := Sht.nice_of (N1 c hc); exact ⟨this.2.2.2.2.2.2.2, this.2.2.2.1⟩
        · rcases List.mem_cons.1 hc with rfl | hc
          · decide
          · rcases List.mem_cons.1 hc with rfl | hc
            · decide
            · have := Sht.nice_of (V1 c hc); exact ⟨this.2.2.2.2.2.2.2, this.2.2.2.1⟩
    · have : ∀ (b : Bool), ∀ c ∈ Sht.tailS b, c ≠ 125 ∧ c ≠ 47 := by decide
      exact this s c hc
  · rw [List.mem_singleton] at hc
    rw [hc]
    decide
theorem mayR_parts {r : Rl} (h : mayR r = true) : 0 < r.1.length ∧ r.1.length ≤ 20 ∧ r.2.length ≤ 60 ∧ (∀ s ∈ r.1, maySel s = true) ∧ ∀ d ∈ r.2, mayDc d = true := by
  unfold mayR at h
  simp only [Bool.and_eq_true, Bool.not_eq_true', decide_eq_true_eq, List.any_eq_false] at h
  obtain ⟨h1, h2, h3, h4, h5⟩ := h
  refine ⟨?_, h2, h3, fun s hs => ?_, fun d hd => ?_⟩
  · rcases Nat.eq_zero_or_pos r.1.length with h0 | h0
    · rw [h0] at h1; cases h1
    · exact h0
  · have := h4 s hs
    simpa using this
  · have := h5 d hd
    simpa using this
theorem mayL_parts {l : List Rl} (h : mayL l = true) : (∀ r ∈ l, mayR r = true) ∧ l.length ≤ 40 := by
  unfold mayL at h
  rw [Bool.and_eq_true] at h
  exact ⟨List.all_eq_true.1 h.1, of_decide_eq_true h.2⟩
theorem rule_okR {r : Rl} (h : mayR r = true) : Sht.okR r := ⟨sels_out _ _, decls_out _ (mayR_parts h).2.2.2.2⟩
theorem rule_back {r : Rl} (h : mayR r = true) : ruleB (selsN r.1 r.1.length ++ [32], r.2.flatMap declL ++ [32]) = [ofR r] := by
  obtain ⟨h0, _, _, hs, hd⟩ := mayR_parts h
  have e1 := Sht.head_parts r.1 h0 (fun s _ => by have := PL_ok (ofSel s); rw [pl_of] at this; exact this)
  have e2 := Sht.body_back r.2 hd
  have e3 : ((spl 44 (trimL (selsN r.1 r.1.length ++ [32]))).map fun q => ba (trimL q)) = (r.1.map ofSel).map fun x => ba (PL x) := by
    have : ((spl 44 (trimL (selsN r.1 r.1.length ++ [32]))).map fun q => ba (trimL q)) = ((spl 44 (trimL (selsN r.1 r.1.length ++ [32]))).map trimL).map ba := by rw [List.map_map]; rfl
    rw [this, e1, List.map_map, List.map_map]
    refine List.map_congr_left fun s _ => ?_
    show ba _ = ba (PL (ofSel s))
    rw [pl_of]
  have e4 : (r.1.map ofSel).all mayB = true := by
    rw [List.all_eq_true]
    intro x hx
    obtain ⟨s, hs1, rfl⟩ := List.mem_map.1 hx
    rw [may_of]
    exact hs s hs1
  unfold ruleB
  dsimp only
  rw [e3, listL_all, if_pos e4, e2, if_pos rfl]
  rfl
theorem rule_mkB (p : List UInt8 × List UInt8) : ruleB (Sht.mkB p) = ruleB p := by
  unfold ruleB Sht.mkB
  dsimp only
  rw [trim_trim, trim_trim]
theorem rules_mkB (bs : List (List UInt8 × List UInt8)) : rulesOf (bs.map Sht.mkB) = rulesOf bs := by
  unfold rulesOf
  rw [List.flatMap_map]
  congr 1
  funext p
  exact rule_mkB p
/-- rules that are printed ahead of any text -/
theorem rules_joined (l : List Rl) (h : ∀ r ∈ l, mayR r = true) (s : List UInt8) : rulesOf (bgo none [] (scn false (l.flatMap ruleL ++ s))) = l.map ofR ++ rulesOf (bgo none [] (scn false s)) := by
  rw [← rules_mkB, Sht.blocks_joined l (fun r hr => rule_okR (h r hr))]
  unfold rulesOf
  rw [List.flatMap_append]
  congr 1
  · rw [List.flatMap_map]
    induction l with
    | nil => rfl
    | cons r l ih =>
      rw [List.flatMap_cons, ih (fun x hx => h x (by simp [hx])), rule_mkB, rule_back (h r (by simp))]
      rfl
  · exact rules_mkB _
theorem print_L {l : List Rl} (h : mayL l = true) : (printR l).data.toList = l.flatMap ruleL := by
  unfold printR
  rw [if_pos h]
theorem name_len {l : List UInt8} (h : nameV l = true) : l.length ≤ 20 := by
  unfold nameV at h
  rw [Bool.and_eq_true, Bool.and_eq_true] at h
  obtain ⟨h1, h2, _⟩ := h
  have h2 := of_decide_eq_true h2
  unfold nameOk at h1
  rw [Bool.and_eq_true, Bool.and_eq_true] at h1
  have := of_decide_eq_true h1.2.1
  omega
/-! ### how large -/
theorem addS_mem {l : List ByteArray} {s : ByteArray} (h : s ∈ l) : s.size + 1 ≤ addS l := by
  induction l with
  | nil => cases h
  | cons a t ih =>
    have e : addS (a :: t) = (1 + a.size) + addS t := by unfold addS; rw [List.map_cons, List.sum_cons]
    rcases List.mem_cons.1 h with rfl | h
    · omega
    · have := ih h; omega
theorem addS_len (l : List ByteArray) : l.length ≤ addS l := by
  induction l with
  | nil => exact Nat.zero_le _
  | cons a t ih =>
    have e : addS (a :: t) = (1 + a.size) + addS t := by unfold addS; rw [List.map_cons, List.sum_cons]
    rw [List.length_cons]
    omega
theorem preW_add (c : UInt8) (l : List ByteArray) : (preW c l).length = addS l := by
  induction l with
  | nil => rfl
  | cons a t ih =>
    have e : addS (a :: t) = (1 + a.size) + addS t := by unfold addS; rw [List.map_cons, List.sum_cons]
    have e2 : preW c (a :: t) = (c :: a.data.toList) ++ preW c t := rfl
    rw [e2, List.length_append, ih, e, List.length_cons, ← sz]
    omega
def fineX (x : Smp) : Prop := fitX x ∧ txtX x ∧ lenX x
theorem fine_of {x : Smp} (h : wP x ≤ 5000) : fineX x := by
  have h1 := addS_len x.2.1
  have h2 := addS_len x.2.2.1
  unfold wP at h
  refine ⟨⟨by omega, by omega, fun s hs => ?_⟩, ⟨⟨by omega, by omega⟩, ?_⟩, by omega, by omega⟩
  · rcases List.mem_append.1 hs with hs | hs
    · have := addS_mem hs; omega
    · have := addS_mem hs; omega
  · rw [preW_add, preW_add]; omega
theorem add_names : ∀ {l : List ByteArray}, (∀ s ∈ l, nameV s.data.toList = true) → addS l ≤ 21 * l.length
  | [], _ => Nat.le_refl _
  | a :: t, h => by
    have e : addS (a :: t) = (1 + a.size) + addS t := by unfold addS; rw [List.map_cons, List.sum_cons]
    have h1 := name_len (h a (by simp))
    have h2 := add_names (l := t) fun s hs => h s (by simp [hs])
    rw [← sz] at h1
    rw [e, List.length_cons]
    omega
theorem may_wP {x : Smp} (h : mayX x = true) : wP x ≤ 201 := by
  obtain ⟨h1, h2, h3⟩ := may_parts h
  have e1 : x.2.1.length + x.2.2.1.length ≤ 8 := by
    unfold tl at h3
    rw [List.length_append, List.length_append, List.length_map, List.length_map] at h3
    omega
  have a1 := add_names (l := x.2.1) fun s hs => h2 s (List.mem_append_left _ hs)
  have a2 := add_names (l := x.2.2.1) fun s hs => h2 s (List.mem_append_right _ hs)
  have a0 : x.1.size ≤ 20 := by
    rw [sz]
    rcases h1 with h1 | h1
    · rw [h1]; simp
    · exact name_len h1
  unfold wP
  omega
/-- small enough to be printed, compared and asked -/
def goodR (r : Rl) : Prop := fitR r ∧ txtR r ∧ lenR r
theorem good_of {r : Rl} (h1 : r.1.length ≤ 100000) (h2 : r.2.length ≤ 100000) (h : ∀ s ∈ r.1, s.1.length ≤ 1000 ∧ s.2.length ≤ 1000 ∧ ∀ p ∈ s.1, fineX p) : goodR r := by
  refine ⟨⟨by omega, by omega, fun s hs => ?_⟩, fun s hs => ?_, by omega, by omega, fun s hs => ?_⟩
  · obtain ⟨a, b, c⟩ := h s hs
    exact ⟨by omega, by omega, fun p hp => (c p hp).1⟩
  · obtain ⟨a, b, c⟩ := h s hs
    exact ⟨a, b, fun p hp => (c p hp).2.1⟩
  · obtain ⟨a, b, c⟩ := h s hs
    exact ⟨by omega, by omega, fun p hp => (c p hp).2.2⟩
theorem may_sel {s : Sel} (h : maySel s = true) : s.1.length ≤ 1000 ∧ s.2.length ≤ 1000 ∧ ∀ p ∈ s.1, fineX p := by
  obtain ⟨_, h8, hl, hm⟩ := mayS_parts h
  exact ⟨by omega, by omega, fun p hp => fine_of (by have := may_wP (hm p hp); omega)⟩
theorem listL_may : ∀ (ps : List ByteArray) (acc : List SEL), (∀ x ∈ acc, mayB x = true) → (∀ x ∈ (listL ps acc).1, mayB x = true) ∧ (listL ps acc).1.length ≤ acc.length + ps.length
  | [], acc, h => ⟨h, by simp [listL]⟩
  | p :: r, acc, h => by
    rw [listL]
    split
    · rename_i c
      obtain ⟨a, b⟩ := listL_may r (acc ++ [⟨(readV p).1, (readV p).2.1⟩]) (fun x hx => by
        rcases List.mem_append.1 hx with hx | hx
        · exact h x hx
        · rw [List.mem_singleton] at hx
          rw [hx]
          exact (read_may p).1 c)
      refine ⟨a, ?_⟩
      simp at b ⊢
      omega
    · exact ⟨fun x hx => by simp at hx, by simp⟩
theorem good_rules (bs : List (List UInt8 × List UInt8)) (h : ∀ p ∈ bs, p.1.length ≤ 5000 ∧ p.2.length ≤ 5000) : ∀ r ∈ (rulesOf bs).map toR, goodR r := by
  intro r hr
  obtain ⟨x, hx, rfl⟩ := List.mem_map.1 hr
  obtain ⟨p, hp, hx⟩ := List.mem_flatMap.1 hx
  obtain ⟨z1, z2⟩ := h p hp
  unfold ruleB at hx
  split at hx
  · rw [List.mem_singleton] at hx
    obtain ⟨a, b⟩ := listL_may ((spl 44 (trimL p.1)).map fun q => ba (trimL q)) [] (fun x hx => by cases hx)
    have q1 := trim_len p.1
    have q2 := trim_len p.2
    have q3 := Shp.spl_len 44 (trimL p.1)
    have q4 := Shp.declsV_len (ba (trimL p.2))
    rw [sz, ba_data] at q4
    rw [List.length_map, List.length_nil] at b
    subst hx
    refine good_of ?_ ?_ fun s hs => ?_
    · show (List.map sheet_May.sel _).length ≤ _
      rw [List.length_map]
      dsimp only
      omega
    · show (List.map sheet_May.dc _).length ≤ _
      rw [List.length_map, List.length_map]
      omega
    · obtain ⟨y, hy, rfl⟩ := List.mem_map.1 hs
      exact may_sel (a y hy)
  · cases hx
theorem good_read (s : ByteArray) : ∀ r ∈ (readF s).1.map toR, goodR r := by
  unfold readF
  split
  · intro r hr; cases hr
  · have h4 := bgo_mem (scn false s.data.toList) none []
    have h5 := scn_len s.size false s.data.toList (by rw [sz]; exact Nat.le_refl _)
    rw [← sz] at h5
    have hg := good_rules (bgo none [] (scn false s.data.toList)) (fun p hp => by
      have := h4 p hp
      simp only [Option.getD_none, List.length_nil] at this
      omega)
    unfold fullF
    split
    · intro r hr; cases hr
    · exact hg
theorem read_len (s : ByteArray) : (readF s).1.length ≤ 40 ∧ ((readF s).2 = 0 ∨ readF s = ([], 3)) := by
  unfold readF fullF
  split
  · exact ⟨by simp, .inr rfl⟩
  · split
    · exact ⟨by simp, .inr rfl⟩
    · exact ⟨by simp; omega, .inl rfl⟩
end Go.Proofs.YtolfpgccebdlpaaGreatDoor.Pure
set_option linter.unusedVariables false
set_option linter.unusedSimpArgs false
namespace Go.Proofs.Shb
open Go.Proofs.YtolfpgccebdlpaaGreatDoor Go.RowKit Go.Lib Go.Proofs.YtolfpgccebdlpaaGreatDoorW.PrintWords Go.Proofs.YtolfpgccebdlpaaGreatDoorW.PrintLast Go.Proofs.YtolfpgccebdlpaaGreatDoorW.PrintMore Go.Proofs.Tok Go.Proofs.Sht Go.Proofs.YtolfpgccebdlpaaGreatDoor.Shn Go.Proofs.YtolfpgccebdlpaaGreatDoor.Pure Go.Proofs.Shi
/-- what sheet.Read answers, in plain data -/
def rd (s : ByteArray) : List Rl × Int := ((readF s).1.map Pure.toR, (readF s).2)
theorem rd_len (s : ByteArray) : (rd s).1.length ≤ 40 ∧ ((rd s).2 = 0 ∨ rd s = ([], 3)) := by
  obtain ⟨h1, h2⟩ := read_len s
  refine ⟨by unfold rd; rw [List.length_map]; exact h1, ?_⟩
  rcases h2 with h2 | h2
  · exact .inl h2
  · exact .inr (by unfold rd; rw [h2]; rfl)
theorem take_all {l : List Rl} (h : (l.take 201).length ≤ 100) : l.take 201 = l := by
  rw [List.length_take] at h
  exact List.take_of_length_le (by omega)
abbrev okR (ys : List Rl) : Prop := ys.length ≤ 100 ∧ ∀ r ∈ ys, goodR r
end Go.Proofs.Shb
set_option linter.unusedVariables false
set_option linter.unusedSimpArgs false
namespace Go.Proofs.YtolfpgccebdlpaaGreatDoor.Pure
open Go.RowKit Go.Proofs.YtolfpgccebdlpaaGreatDoor.HT Go.Proofs.YtolfpgccebdlpaaGreatDoor.Shp Go.Proofs.YtolfpgccebdlpaaGreatDoorW.PrintWords Go.Proofs.YtolfpgccebdlpaaGreatDoorW.PrintLast Go.Proofs.YtolfpgccebdlpaaGreatDoorW.PrintMore Go.Proofs.Sht
/-- sheet.Read, in plain data -/
theorem readC (t : ByteArray) (W : World) (ht : t.size ≤ 4000) (h : Sht.Env W) :
    Calls Tryz.prog 27 #[.string t] W fun e w' => ∃ a d, e = .returned (.tuple #[.slice a (Shb.rd t).1.length d, .int .i64 (Shb.rd t).2]) ∧ Kd.C kRl w' a (Shb.rd t).1.length (Shb.rd t).1 ∧ Below W.heap.size W w' := by
  obtain ⟨k, hk⟩ := rReadS t (by omega)
  refine (sheet_Read.calls k t (readF t).1 (readF t).2 W (hk k (Nat.le_refl _)) h).mono fun e w' hq => ?_
  obtain ⟨v, he, hR, hB⟩ := hq
  obtain ⟨A, c, rfl⟩ := Kd.R_slice hR
  obtain ⟨_, _, hC⟩ := Kd.R_reads' hR
  have hl : (Shb.rd t).1.length = (readF t).1.length := List.length_map _
  refine ⟨A, c, ?_, ?_, hB⟩
  · rw [hl]; exact he
  · rw [hl]; exact sheet_May.it_C hC
end Go.Proofs.YtolfpgccebdlpaaGreatDoor.Pure
set_option linter.unusedVariables false
set_option linter.unusedSimpArgs false
namespace Go.Proofs.Shj
open Go.Proofs.YtolfpgccebdlpaaGreatDoor Go.RowKit Go.Lib Go.Proofs.YtolfpgccebdlpaaGreatDoorW.PrintWords Go.Proofs.YtolfpgccebdlpaaGreatDoorW.PrintLast Go.Proofs.YtolfpgccebdlpaaGreatDoorW.PrintMore Go.Proofs.Tok Go.Proofs.Sht Go.Proofs.YtolfpgccebdlpaaGreatDoor.Shn Go.Proofs.YtolfpgccebdlpaaGreatDoor.Pure Go.Proofs.Shi Go.Proofs.Shb Go.Proofs.Scn
theorem may_txt {xs : List Rl} (h : mayL xs = true) : ∀ r ∈ xs, txtR r := by
  intro r hr s hs
  obtain ⟨_, _, _, h4, _⟩ := mayR_parts ((mayL_parts h).1 r hr)
  obtain ⟨a, b, c⟩ := may_sel (h4 s hs)
  exact ⟨a, b, fun p hp => (c p hp).2.1⟩
theorem may_good {xs : List Rl} (h : mayL xs = true) : okR xs := by
  refine ⟨by have := (mayL_parts h).2; omega, fun r hr => ?_⟩
  obtain ⟨h0, h1, h2, h4, _⟩ := mayR_parts ((mayL_parts h).1 r hr)
  exact good_of (by omega) (by omega) fun s hs => may_sel (h4 s hs)
theorem print_size {xs : List Rl} : (printR xs).size ≤ 100000000000000 := by
  cases h : mayL xs with
  | false => rw [show printR xs = ⟨#[]⟩ by unfold printR; rw [h]; rfl]; exact Nat.zero_le _
  | true =>
    rw [Lib.size_eq, print_L h]
    have g := may_good h
    have := flat_len xs (f := ruleL) (b := 300000000000) (fun r hr => ruleL_len ((mayL_parts h).1 r hr) (g.2 r hr).1 (g.2 r hr).2.1)
    have := (mayL_parts h).2
    omega
theorem rd_def (s : ByteArray) (h : s.size ≤ 4000) : rd s = if 40 < (rulesOf (bgo none [] (scn false s.data.toList))).length then ([], 3) else ((rulesOf (bgo none [] (scn false s.data.toList))).map Pure.toR, 0) := by
  unfold Shb.rd readF
  rw [if_neg (by omega)]
  unfold fullF
  split <;> rfl
/-- what is read of rules that are printed ahead of a text -/
theorem joins_rd {xs : List Rl} {s : ByteArray} (h : mayL xs = true) (hz : (printR xs).size + s.size ≤ 4000) :
    (rd s = ([], 3) ∧ rd (printR xs ++ s) = ([], 3)) ∨ (∃ ms, rd s = (ms, 0) ∧ 40 < ms.length + xs.length ∧ rd (printR xs ++ s) = ([], 3)) ∨ ∃ ms, rd s = (ms, 0) ∧ ms.length + xs.length ≤ 40 ∧ rd (printR xs ++ s) = (xs ++ ms, 0) := by
  rw [rd_def s (by omega), rd_def (printR xs ++ s) (by rw [ByteArray.size_append]; omega)]
  have e : (printR xs ++ s).data.toList = xs.flatMap ruleL ++ s.data.toList := by rw [ByteArray.data_append, Array.toList_append, print_L h]
  rw [e, rules_joined xs (mayL_parts h).1]
  generalize rulesOf (bgo none [] (scn false s.data.toList)) = M
  rw [List.length_append, List.length_map, List.map_append, map_to_of]
  by_cases h1 : 40 < M.length
  · exact .inl ⟨if_pos h1, if_pos (by omega)⟩
  · by_cases h2 : 40 < xs.length + M.length
    · exact .inr (.inl ⟨M.map Pure.toR, if_neg h1, by rw [List.length_map]; omega, if_pos h2⟩)
    · exact .inr (.inr ⟨M.map Pure.toR, if_neg h1, by rw [List.length_map]; omega, if_neg h2⟩)
theorem keep0 {b : Nat} {w W W1 : World} (h : Below b w W) (hb : Below W.heap.size W W1) : Below b w W := h
theorem heap_Sel : Kd.Heap kSel := Kd.heap_pair (Kd.heap_slice _ heap_Smp) (Kd.heap_slice _ Kd.heap_bool)
theorem heap_Dc : Kd.Heap kDc := Kd.heap_pair (Kd.heap_int _) (Kd.heap_pair (Kd.heap_int _) (Kd.heap_pair (Kd.heap_int _) Kd.heap_bool))
theorem heap_Rl : Kd.Heap kRl := Kd.heap_pair (Kd.heap_slice _ heap_Sel) (Kd.heap_slice _ heap_Dc)
theorem infoR : (Tryz.prog.info? 115).map (fun i => (i.zero, i.size, i.bytes)) = some (some (.agg #[.slice none 0 0, .slice none 0 0]), 2, 48) := by kernel_rfl
set_option maxHeartbeats 20000000 in
set_option maxRecDepth 400000 in
theorem joinsC (xs : List Rl) (A : Option Addr) (c : Nat) (s : ByteArray) (w : World) (C : Kd.C kRl w A xs.length xs) (hc : xs.length ≤ c) (hl : xs.length ≤ 1048576) (hi : ∀ r ∈ xs, okIn r) (hf : ∀ r ∈ xs, fitR r) (hs : s.size ≤ 1048576) (hE : Sht.Env w)
    (hA : ∀ W, Sht.Env W → Calls Tryz.prog 24 #[] W fun e w' => e = .returned (.bool true) ∧ Below W.heap.size W w')
    (hR : ∀ (t : ByteArray) W, t.size ≤ 4000 → Sht.Env W → Calls Tryz.prog 27 #[.string t] W fun e w' => ∃ a d, e = .returned (.tuple #[.slice a (rd t).1.length d, .int .i64 (rd t).2]) ∧ Kd.C kRl w' a (rd t).1.length (rd t).1 ∧ Below W.heap.size W w') :
    Calls Tryz.prog 8 #[.slice A xs.length c, .string s] w fun e w' => e = .returned (.bool true) ∧ Below w.heap.size w w' := by
  have HA := Aside0.mk hA
  have HR := Aside0.mk hR
  have HE := Aside0.mk hE
  have HC := Aside0.mk C
  obtain ⟨ys, hys⟩ : ∃ ys, xs.take 201 = ys := ⟨_, rfl⟩
  have HO := Aside0.mk (fun W (hW : Below w.heap.size w W) => by
    have q := ownC xs A c W (Kd.C_below C hW) hc (by omega) (fun r hr => ⟨(hi r hr).1, (hi r hr).2.1, fun s hs => ((hi r hr).2.2 s hs).1⟩)
    rw [hys] at q
    exact q)
  have HY := Aside0.mk (⟨by rw [← hys]; exact List.length_take_le _ _, fun h => by rw [← hys, take_all (by rw [hys]; exact h)]⟩ : ys.length ≤ 201 ∧ (ys.length ≤ 100 → ys = xs))
  have HM0 := Aside0.mk (fun r hr => okIn_smR (hi r (List.mem_of_mem_take (hys ▸ hr))) : ∀ r ∈ ys, smR r)
  clear hys
  have HP0 := Aside0.mk (fun W (hW : Below w.heap.size w W) => PrintC xs A c W (Kd.C_below C hW) (by omega) hf may_txt (hE.below hW).2)
  have HM1 := Aside0.mk (fun W (hW : Below w.heap.size w W) => MayC xs A c W (Kd.C_below C hW) (by omega) hf)
  have HS := Aside0.mk (fun (ys : List Rl) (B D : Option Addr) (b d : Nat) (W : World) (hg : okR ys) (h1 : Kd.C kRl W B ys.length ys) (h2 : Kd.C kRl W D ys.length ys) => by
    have q := SameC ys ys B D b d W h1 h2 (by have := hg.1; omega) (by have := hg.1; omega) (fun r hr => (hg.2 r hr).2.2) (fun r hr => (hg.2 r hr).2.2)
    rw [decide_eq_true rfl] at q
    exact q)
  have HB := Aside0.mk (Below.refl w.heap.size w)
  have HZ := Aside0.mk (print_size (xs := xs))
  clear C hE hA hR hi hf
  go_enter Tryz.func8, Tryz.ntmps8
  go_upto_region 4 with (first | (go_at_call 24; (with_reducible refine (HA.out _ (HE.out.below (by repeat (first | exact HB.out | apply pw_below_drewN | apply below_drew1 | apply below_alloc)))).mono ?_); rintro e w7 ⟨rfl, hb⟩; have nHB := Aside0.mk (below_step (by repeat (first | exact HB.out | apply pw_below_drewN | apply below_drew1 | apply below_alloc)) hb); clear HB; have HB := nHB; clear nHB; clear hb) | (go_at_call 36; (with_reducible refine (HP0.out _ (by repeat (first | exact HB.out | apply pw_below_drewN | apply below_drew1 | apply below_alloc))).mono ?_); rintro e w7 ⟨rfl, hb⟩; have nHB := Aside0.mk (below_step (by repeat (first | exact HB.out | apply pw_below_drewN | apply below_drew1 | apply below_alloc)) hb); clear HB; have HB := nHB; clear nHB; clear hb))
  go_cut [34] (fun v34 wc => ∃ v : Bool, v34 = .bool v ∧ Aside0 (v = false → okR xs ∧ mayL xs = true ∧ (printR xs).size + s.size ≤ 4000) ∧ Aside0 (Below w.heap.size w wc))
  case first =>
    clear HP0 HR HS HA
    by_cases h1 : 1000 < s.size
    · have p1 : decide (1000 < s.size) = true := decide_eq_true (by omega)
      have p2 : decide ((1000 : Int) < ((s.size : Nat) : Int)) = true := decide_eq_true (by omega)
      clear h1
      as_aux_lemma =>
      go_wp2
      go_meet
      case rel => exact ⟨true, rfl, ⟨fun h => by cases h⟩, ⟨(by repeat (first | exact HB.out | apply pw_below_drewN | apply below_drew1 | apply below_alloc))⟩⟩
    have p1 : decide (1000 < s.size) = false := decide_eq_false (by omega)
    have p2 : decide ((1000 : Int) < ((s.size : Nat) : Int)) = false := decide_eq_false (by omega)
    cases hm1 : mayL xs with
    | false =>
      rw [hm1] at HM1
      clear hm1 h1
      as_aux_lemma =>
      go_wp2_with (first | (go_at_call 26; (with_reducible refine (HO.out _ (by repeat (first | exact HB.out | apply pw_below_drewN | apply below_drew1 | apply below_alloc))).mono ?_); rintro e w7 ⟨v1, rfl, hv, hb⟩; have nHB := Aside0.mk (below_step (by repeat (first | exact HB.out | apply pw_below_drewN | apply below_drew1 | apply below_alloc)) hb); clear HB; have HB := nHB; clear nHB; clear hb; obtain ⟨a1, d1, rfl, hd1, hf1⟩ := hv; have HF := Aside0.mk (Kd.F_now hf1); clear hf1; have HD := Aside0.mk (Below.refl w7.heap.size w7)) | (go_at_call 25; (with_reducible refine (LargeC ys a1 d1 _ (Kd.C_below HF.out (by repeat (first | exact HD.out | apply pw_below_drewN | apply below_drew1 | apply below_alloc))) HY.out.1 HM0.out).mono ?_); rintro e w7 ⟨b, rfl, hq, hb⟩; have nHB := Aside0.mk (below_step (by repeat (first | exact HB.out | apply pw_below_drewN | apply below_drew1 | apply below_alloc)) hb); have nHD := Aside0.mk (below_step (by repeat (first | exact HD.out | apply pw_below_drewN | apply below_drew1 | apply below_alloc)) hb); clear HB HD; have HB := nHB; clear nHB; have HD := nHD; clear nHD; clear hb; have HQ := Aside0.mk hq; clear hq; cases b; rotate_left; focus (clear HQ HF HD; go_wp2; go_meet; exact ⟨true, rfl, ⟨fun h => by cases h⟩, ⟨(by repeat (first | exact HB.out | apply pw_below_drewN | apply below_drew1 | apply below_alloc))⟩⟩)) | (go_at_call 34; (with_reducible refine (HM1.out _ (by repeat (first | exact HB.out | apply pw_below_drewN | apply below_drew1 | apply below_alloc))).mono ?_); rintro e w7 ⟨rfl, hb⟩; have nHB := Aside0.mk (below_step (by repeat (first | exact HB.out | apply pw_below_drewN | apply below_drew1 | apply below_alloc)) hb); clear HB; have HB := nHB; clear nHB; clear hb))
      go_meet
      case rel => exact ⟨true, rfl, ⟨fun h => by cases h⟩, ⟨(by repeat (first | exact HB.out | apply pw_below_drewN | apply below_drew1 | apply below_alloc))⟩⟩
    | true =>
      rw [hm1] at HM1
      have zw : wrap64 (((printR xs).size : Int) + (s.size : Int)) = (((printR xs).size + s.size : Nat) : Int) := by have := HZ.out; unfold wrap64; omega
      have G := Aside0.mk (may_good hm1)
      have HM2 := Aside0.mk hm1
      clear hm1 h1
      obtain ⟨n, hn⟩ : ∃ n, (printR xs).size + s.size = n := ⟨_, rfl⟩
      have HN := Aside0.mk hn
      rw [hn] at zw
      clear hn
      by_cases h4 : 4000 < n
      · have z1 : decide (4000 < n) = true := decide_eq_true (by omega)
        have z2 : decide ((4000 : Int) < ((n : Nat) : Int)) = true := decide_eq_true (by omega)
        have H4 := Aside0.mk h4
        clear h4
        as_aux_lemma =>
        go_wp2_with (first | (go_at_call 26; (with_reducible refine (HO.out _ (by repeat (first | exact HB.out | apply pw_below_drewN | apply below_drew1 | apply below_alloc))).mono ?_); rintro e w7 ⟨v1, rfl, hv, hb⟩; have nHB := Aside0.mk (below_step (by repeat (first | exact HB.out | apply pw_below_drewN | apply below_drew1 | apply below_alloc)) hb); clear HB; have HB := nHB; clear nHB; clear hb; obtain ⟨a1, d1, rfl, hd1, hf1⟩ := hv; have HF := Aside0.mk (Kd.F_now hf1); clear hf1; have HD := Aside0.mk (Below.refl w7.heap.size w7)) | (go_at_call 25; (with_reducible refine (LargeC ys a1 d1 _ (Kd.C_below HF.out (by repeat (first | exact HD.out | apply pw_below_drewN | apply below_drew1 | apply below_alloc))) HY.out.1 HM0.out).mono ?_); rintro e w7 ⟨b, rfl, hq, hb⟩; have nHB := Aside0.mk (below_step (by repeat (first | exact HB.out | apply pw_below_drewN | apply below_drew1 | apply below_alloc)) hb); have nHD := Aside0.mk (below_step (by repeat (first | exact HD.out | apply pw_below_drewN | apply below_drew1 | apply below_alloc)) hb); clear HB HD; have HB := nHB; clear nHB; have HD := nHD; clear nHD; clear hb; have HQ := Aside0.mk hq; clear hq; cases b; rotate_left; focus (clear HQ HF HD; go_wp2; go_meet; exact ⟨true, rfl, ⟨fun h => by cases h⟩, ⟨(by repeat (first | exact HB.out | apply pw_below_drewN | apply below_drew1 | apply below_alloc))⟩⟩)) | (go_at_call 34; (with_reducible refine (HM1.out _ (by repeat (first | exact HB.out | apply pw_below_drewN | apply below_drew1 | apply below_alloc))).mono ?_); rintro e w7 ⟨rfl, hb⟩; have nHB := Aside0.mk (below_step (by repeat (first | exact HB.out | apply pw_below_drewN | apply below_drew1 | apply below_alloc)) hb); clear HB; have HB := nHB; clear nHB; clear hb))
        go_meet
        case rel => exact ⟨true, by first | rfl | (simp [*]; done), ⟨fun h => by cases h⟩, ⟨(by repeat (first | exact HB.out | apply pw_below_drewN | apply below_drew1 | apply below_alloc))⟩⟩
      · have z1 : decide (4000 < n) = false := decide_eq_false (by omega)
        have z2 : decide ((4000 : Int) < ((n : Nat) : Int)) = false := decide_eq_false (by omega)
        have H4 := Aside0.mk h4
        clear h4
        as_aux_lemma =>
        go_wp2_with (first | (go_at_call 26; (with_reducible refine (HO.out _ (by repeat (first | exact HB.out | apply pw_below_drewN | apply below_drew1 | apply below_alloc))).mono ?_); rintro e w7 ⟨v1, rfl, hv, hb⟩; have nHB := Aside0.mk (below_step (by repeat (first | exact HB.out | apply pw_below_drewN | apply below_drew1 | apply below_alloc)) hb); clear HB; have HB := nHB; clear nHB; clear hb; obtain ⟨a1, d1, rfl, hd1, hf1⟩ := hv; have HF := Aside0.mk (Kd.F_now hf1); clear hf1; have HD := Aside0.mk (Below.refl w7.heap.size w7)) | (go_at_call 25; (with_reducible refine (LargeC ys a1 d1 _ (Kd.C_below HF.out (by repeat (first | exact HD.out | apply pw_below_drewN | apply below_drew1 | apply below_alloc))) HY.out.1 HM0.out).mono ?_); rintro e w7 ⟨b, rfl, hq, hb⟩; have nHB := Aside0.mk (below_step (by repeat (first | exact HB.out | apply pw_below_drewN | apply below_drew1 | apply below_alloc)) hb); have nHD := Aside0.mk (below_step (by repeat (first | exact HD.out | apply pw_below_drewN | apply below_drew1 | apply below_alloc)) hb); clear HB HD; have HB := nHB; clear nHB; have HD := nHD; clear nHD; clear hb; have HQ := Aside0.mk hq; clear hq; cases b; rotate_left; focus (clear HQ HF HD; go_wp2; go_meet; exact ⟨true, rfl, ⟨fun h => by cases h⟩, ⟨(by repeat (first | exact HB.out | apply pw_below_drewN | apply below_drew1 | apply below_alloc))⟩⟩)) | (go_at_call 34; (with_reducible refine (HM1.out _ (by repeat (first | exact HB.out | apply pw_below_drewN | apply below_drew1 | apply below_alloc))).mono ?_); rintro e w7 ⟨rfl, hb⟩; have nHB := Aside0.mk (below_step (by repeat (first | exact HB.out | apply pw_below_drewN | apply below_drew1 | apply below_alloc)) hb); clear HB; have HB := nHB; clear nHB; clear hb))
        go_meet
        case rel => exact ⟨false, by first | rfl | (simp [*]; done), ⟨fun h => ⟨G.out, HM2.out, by have := HN.out; have := H4.out; omega⟩⟩, ⟨(by repeat (first | exact HB.out | apply pw_below_drewN | apply below_drew1 | apply below_alloc))⟩⟩
  case rest =>
    obtain ⟨v, rfl, HV, HB⟩ := hcut
    cases v with
    | true =>
      as_aux_lemma =>
      go_wp2
      go_ret
      exact ⟨rfl, (by repeat (first | exact HB.out | apply pw_below_drewN | apply below_drew1 | apply below_alloc))⟩
    | false =>
      obtain ⟨G, hm, hz⟩ := HV.out rfl
      clear HV HP0 HM1 HA HO HY HM0
      have HR1 := Aside0.mk (fun (W : World) (h : Sht.Env W) => HR.out s W (by omega) h)
      have HR2 := Aside0.mk (fun (W : World) (h : Sht.Env W) => HR.out (printR xs ++ s) W (by rw [ByteArray.size_append]; omega) h)
      have hg0 := good_read s
      have HG := Aside0.mk G
      clear HR
      have hj := joins_rd hm hz
      clear hm G HZ
      rcases hj with ⟨e1, e2⟩ | ⟨ms, e1, hn, e2⟩ | ⟨ms, e1, hn, e2⟩
      · rw [e1] at HR1
        rw [e2] at HR2
        clear hg0 e1 e2
        as_aux_lemma =>
        go_wp2_with (first | (go_at_call 27; (with_reducible refine (HR1.out _ (HE.out.below (by repeat (first | exact HB.out | apply pw_below_drewN | apply below_drew1 | apply below_alloc)))).mono ?_); rintro e w1r ⟨a1, d1, rfl, hc1, hb⟩; have nHB := Aside0.mk (below_step (by repeat (first | exact HB.out | apply pw_below_drewN | apply below_drew1 | apply below_alloc)) hb); clear HB; have HB := nHB; clear nHB; clear hb; have HC1 := Aside0.mk hc1; clear hc1; have HK1 := Aside0.mk (Below.refl w1r.heap.size w1r)) | (go_at_call 27; (with_reducible refine (HR2.out _ (HE.out.below (by repeat (first | exact HB.out | apply pw_below_drewN | apply below_drew1 | apply below_alloc)))).mono ?_); rintro e w2r ⟨a2, d2, rfl, hc2, hb⟩; have nHB := Aside0.mk (below_step (by repeat (first | exact HB.out | apply pw_below_drewN | apply below_drew1 | apply below_alloc)) hb); have nHK1 := Aside0.mk (below_step (by repeat (first | exact HK1.out | apply pw_below_drewN | apply below_drew1 | apply below_alloc)) hb); clear HB HK1; have HB := nHB; clear nHB; have HK1 := nHK1; clear nHK1; clear hb; have HC2 := Aside0.mk hc2; clear hc2; have HK2 := Aside0.mk (Below.refl w2r.heap.size w2r)))
        go_ret
        exact ⟨rfl, (by repeat (first | exact HB.out | apply pw_below_drewN | apply below_drew1 | apply below_alloc))⟩
      · have hml : ms.length ≤ 40 := by have := (rd_len s).1; rw [e1] at this; exact this
        rw [e1] at HR1
        rw [e2] at HR2
        clear hg0 e1 e2
        have z1 : decide ((40 : Int) < (ms.length : Int) + (xs.length : Int)) = true := decide_eq_true (by omega)
        clear hn
        as_aux_lemma =>
        go_wp2_with (first | (go_at_call 27; (with_reducible refine (HR1.out _ (HE.out.below (by repeat (first | exact HB.out | apply pw_below_drewN | apply below_drew1 | apply below_alloc)))).mono ?_); rintro e w1r ⟨a1, d1, rfl, hc1, hb⟩; have nHB := Aside0.mk (below_step (by repeat (first | exact HB.out | apply pw_below_drewN | apply below_drew1 | apply below_alloc)) hb); clear HB; have HB := nHB; clear nHB; clear hb; have HC1 := Aside0.mk hc1; clear hc1; have HK1 := Aside0.mk (Below.refl w1r.heap.size w1r)) | (go_at_call 27; (with_reducible refine (HR2.out _ (HE.out.below (by repeat (first | exact HB.out | apply pw_below_drewN | apply below_drew1 | apply below_alloc)))).mono ?_); rintro e w2r ⟨a2, d2, rfl, hc2, hb⟩; have nHB := Aside0.mk (below_step (by repeat (first | exact HB.out | apply pw_below_drewN | apply below_drew1 | apply below_alloc)) hb); have nHK1 := Aside0.mk (below_step (by repeat (first | exact HK1.out | apply pw_below_drewN | apply below_drew1 | apply below_alloc)) hb); clear HB HK1; have HB := nHB; clear nHB; have HK1 := nHK1; clear nHK1; clear hb; have HC2 := Aside0.mk hc2; clear hc2; have HK2 := Aside0.mk (Below.refl w2r.heap.size w2r)))
        go_ret
        exact ⟨rfl, (by repeat (first | exact HB.out | apply pw_below_drewN | apply below_drew1 | apply below_alloc))⟩
      · have hml : ms.length ≤ 40 := by have := (rd_len s).1; rw [e1] at this; exact this
        have hmg : ∀ r ∈ ms, goodR r := by rw [show ms = (rd s).1 by rw [e1]]; exact hg0
        obtain ⟨zs, hzs⟩ : ∃ zs, xs ++ ms = zs := ⟨_, rfl⟩
        have HZS := Aside0.mk hzs
        have HGZ := Aside0.mk (by rw [← hzs]; exact ⟨by rw [List.length_append]; omega, fun r hr => by rcases List.mem_append.1 hr with hr | hr; exact HG.out.2 r hr; exact hmg r hr⟩ : okR zs)
        have HFX := Aside0.mk (Kd.C_F heap_Rl HC.out)
        rw [e1] at HR1
        rw [e2, hzs] at HR2
        clear hg0 e1 e2 hmg hzs
        have z1 : decide ((40 : Int) < (ms.length : Int) + (xs.length : Int)) = false := decide_eq_false (by omega)
        have HNN := Aside0.mk hn
        clear hn
        as_aux_lemma =>
        go_wp2_with (first | (go_at_call 27; (with_reducible refine (HR1.out _ (HE.out.below (by repeat (first | exact HB.out | apply pw_below_drewN | apply below_drew1 | apply below_alloc)))).mono ?_); rintro e w1r ⟨a1, d1, rfl, hc1, hb⟩; have nHB := Aside0.mk (below_step (by repeat (first | exact HB.out | apply pw_below_drewN | apply below_drew1 | apply below_alloc)) hb); clear HB; have HB := nHB; clear nHB; clear hb; have HC1 := Aside0.mk hc1; clear hc1; have HK1 := Aside0.mk (Below.refl w1r.heap.size w1r)) | (go_at_call 27; (with_reducible refine (HR2.out _ (HE.out.below (by repeat (first | exact HB.out | apply pw_below_drewN | apply below_drew1 | apply below_alloc)))).mono ?_); rintro e w2r ⟨a2, d2, rfl, hc2, hb⟩; have nHB := Aside0.mk (below_step (by repeat (first | exact HB.out | apply pw_below_drewN | apply below_drew1 | apply below_alloc)) hb); have nHK1 := Aside0.mk (below_step (by repeat (first | exact HK1.out | apply pw_below_drewN | apply below_drew1 | apply below_alloc)) hb); clear HB HK1; have HB := nHB; clear nHB; have HK1 := nHK1; clear nHK1; clear hb; have HC2 := Aside0.mk hc2; clear hc2; have HK2 := Aside0.mk (Below.refl w2r.heap.size w2r)) | ((with_reducible refine gate_dst (N := 68) rfl ?_); (try (refine gate_guard (by rfl) ?_; dsimp only)); refine Kd.N_lit kRl _ 115 ?hg (N' := 68) ?hd (xs := ([] : List Rl)) (inner := []) (ok := fun _ => True) (okp := fun _ => True) ?hr ?hp (fun _ hk => hk) trivial (Below.refl _ _) (Nat.le_refl _) (by simp) ?_; (case hd => rfl); (case hg => rfl); (case hr => first | (go_simp; done)); (case hp => exact (Reps.none _ _)); intro v68 w68 ho hb hg_ hnew_; clear hg_ hnew_; have HN68 := Aside0.mk ho; clear ho; have SZ := Aside0.mk (below_size (keep0 (by repeat (first | exact HB.out | apply pw_below_drewN | apply below_drew1 | apply below_alloc)) hb)); have SZ1 := Aside0.mk (below_size (keep0 (by repeat (first | exact HK1.out | apply pw_below_drewN | apply below_drew1 | apply below_alloc)) hb)); have LHB := Aside0.mk (keep0 (by repeat (first | exact HB.out | apply pw_below_drewN | apply below_drew1 | apply below_alloc)) hb); have LHK1 := Aside0.mk (keep0 (by repeat (first | exact HK1.out | apply pw_below_drewN | apply below_drew1 | apply below_alloc)) hb); have LHK2 := Aside0.mk (keep0 (by repeat (first | exact HK2.out | apply pw_below_drewN | apply below_drew1 | apply below_alloc)) hb); have nHB := Aside0.mk (below_step LHB.out hb); have nHK1 := Aside0.mk (below_step LHK1.out hb); have nHK2 := Aside0.mk (below_step LHK2.out hb); clear HB HK1 HK2; have HB := nHB; clear nHB; have HK1 := nHK1; clear nHK1; have HK2 := nHK2; clear nHK2; have HB68 := Aside0.mk hb; clear hb) | ((with_reducible refine gate_builtin (b := .append) (xs := #[.tmp 68, .tmp 69]) rfl ?_); (try (refine gate_guard (by rfl) ?_; dsimp only)); at_builtin; refine Kd.N_append_rows kRl _ rfl (.tmp 68) (.tmp 69) 50 115 (.agg #[.slice none 0 0, .slice none 0 0]) 48 rfl Tryz.underlying50 infoR rfl (by decide) (by omega) v68 [] xs A xs.length c (fun _ => True) (fun k => k < w.heap.size) rfl rfl HN68.out (Kd.F_below HFX.out HB.out) (fun k hk => ⟨trivial, fun e => by have := Kd.N_base HN68.out k e.symm; have := SZ.out; omega⟩) (fun _ _ => trivial) HB68.out HB68.out.size (by have := HNN.out; simp; omega) ?_; intro v70 w70 ho hb hg hat; clear hg hat; have nHB := Aside0.mk (below_step LHB.out hb); have nHK1 := Aside0.mk (below_step LHK1.out hb); have nHK2 := Aside0.mk (below_step LHK2.out hb); clear HB HK1 HK2; have HB := nHB; clear nHB; have HK1 := nHK1; clear nHK1; have HK2 := nHK2; clear nHK2; have HMB := Aside0.mk hb; clear hb; rw [List.nil_append] at ho; have HN70 := Aside0.mk ho; clear ho) | ((with_reducible refine gate_builtin (b := .append) (xs := #[.tmp 70, .tmp 71]) rfl ?_); (try (refine gate_guard (by rfl) ?_; dsimp only)); at_builtin; refine Kd.N_append_rows kRl _ rfl (.tmp 70) (.tmp 71) 50 115 (.agg #[.slice none 0 0, .slice none 0 0]) 48 rfl Tryz.underlying50 infoR rfl (by decide) (by omega) v70 xs ms a1 ms.length d1 (fun _ => True) (fun k => k < w1r.heap.size) rfl rfl HN70.out (Kd.F_below (Kd.C_F heap_Rl HC1.out) HK1.out) (fun k hk => ⟨trivial, fun e => by have := Kd.N_base HN70.out k e.symm; have := SZ1.out; omega⟩) (fun _ _ => trivial) HMB.out HMB.out.size (by have := HNN.out; simp; omega) ?_; intro v72 w72 ho hb hg hat; clear hg hat; have nHB := Aside0.mk (below_step LHB.out hb); have nHK1 := Aside0.mk (below_step LHK1.out hb); have nHK2 := Aside0.mk (below_step LHK2.out hb); clear HB HK1 HK2; have HB := nHB; clear nHB; have HK1 := nHK1; clear nHK1; have HK2 := nHK2; clear nHK2; have HQB := Aside0.mk hb; clear hb; rw [HZS.out] at ho; obtain ⟨A72, c72, hv⟩ := Kd.N_slice ho; subst hv; have HC72 := Aside0.mk (Kd.N_reads' ho).2.2; clear ho; have HK72 := Aside0.mk (Below.refl w72.heap.size w72)) | (go_at_call 38; (with_reducible refine (HS.out zs a2 A72 d2 c72 _ HGZ.out (Kd.C_below HC2.out (by repeat (first | exact HK2.out | apply pw_below_drewN | apply below_drew1 | apply below_alloc))) (Kd.C_below HC72.out (by repeat (first | exact HK72.out | apply pw_below_drewN | apply below_drew1 | apply below_alloc)))).mono ?_); rintro e w7 ⟨rfl, hb⟩; have nHB := Aside0.mk (below_step (by repeat (first | exact HB.out | apply pw_below_drewN | apply below_drew1 | apply below_alloc)) hb); have nHK1 := Aside0.mk (below_step (by repeat (first | exact HK1.out | apply pw_below_drewN | apply below_drew1 | apply below_alloc)) hb); have nHK2 := Aside0.mk (below_step (by repeat (first | exact HK2.out | apply pw_below_drewN | apply below_drew1 | apply below_alloc)) hb); have nHK72 := Aside0.mk (below_step (by repeat (first | exact HK72.out | apply pw_below_drewN | apply below_drew1 | apply below_alloc)) hb); clear HB HK1 HK2 HK72; have HB := nHB; clear nHB; have HK1 := nHK1; clear nHK1; have HK2 := nHK2; clear nHK2; have HK72 := nHK72; clear nHK72; clear hb))
        go_ret
        exact ⟨rfl, (by repeat (first | exact HB.out | apply pw_below_drewN | apply below_drew1 | apply below_alloc))⟩
end Go.Proofs.Shj
set_option linter.unusedVariables false
set_option linter.unusedSimpArgs false
namespace Go.Proofs.YtolfpgccebdlpaaGreatDoor.Pure
open Go.RowKit Go.Proofs.YtolfpgccebdlpaaGreatDoor.HT Go.Proofs.YtolfpgccebdlpaaGreatDoor.Shp Go.Proofs.YtolfpgccebdlpaaGreatDoorW.PrintWords Go.Proofs.YtolfpgccebdlpaaGreatDoorW.PrintLast Go.Proofs.YtolfpgccebdlpaaGreatDoorW.PrintMore Go.Proofs.Sht
theorem joinsAll (A : Option Addr) (c : Nat) (xs : List Rl) (s : ByteArray) (w : World) (C : Kd.C kRl w A xs.length xs) (hc : xs.length ≤ c) (hi : xs.length ≤ 1048576 ∧ ∀ r ∈ xs, Shi.okIn r ∧ fitR r) (hs : s.size ≤ 1048576) (hE : Sht.Env w) :
    Calls Tryz.prog 8 #[.slice A xs.length c, .string s] w fun e w' => e = .returned (.bool true) ∧ Below w.heap.size w w' := by
  obtain ⟨ka, ha⟩ := awake
  exact Shj.joinsC xs A c s w C hc hi.1 (fun r hr => (hi.2 r hr).1) (fun r hr => (hi.2 r hr).2) hs hE (fun W h => scrimlaw10_awake.calls ka true rfl W (ha _ (Nat.le_refl _)) h) readC
end Go.Proofs.YtolfpgccebdlpaaGreatDoor.Pure
