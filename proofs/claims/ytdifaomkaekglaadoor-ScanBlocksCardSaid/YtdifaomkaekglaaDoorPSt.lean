/- The plain half of ScanTells: the reference's Split, Words, Blocks and the given program's Blocks are the same machines. -/
import Derived.Test.YtdifaomkaekglaaDoorPSr
set_option linter.unusedVariables false
set_option linter.unusedSimpArgs false
namespace Go.Proofs.YtdifaomkaekglaaDoor.Pure
open Go.RowKit Go.Proofs.YtdifaomkaekglaaDoor.HS Go.Proofs.YtdifaomkaekglaaDoorW.PrintWords Go.Proofs.YtdifaomkaekglaaDoorW.PrintLast Go.Proofs.Scn
/-! ### Same -/
theorem rSame_l (l : List ByteArray) (hl : l.length ≤ 100000) : ∀ (d i : Nat), i + d = l.length → Ev (fun k => scrimref07_Same.l0 k l l (i : Int)) true
  | 0, i, h => Ev.step (f := fun k => some true) (fun k => by rw [scrimref07_Same.l0, if_neg (by omega)]) (Ev.now _)
  | d + 1, i, h => Ev.step (f := fun k => scrimref07_Same.l0 k l l ((i + 1 : Nat) : Int)) (fun k => by rw [scrimref07_Same.l0, if_pos (by omega), if_pos (by omega), if_pos (by omega), if_pos rfl, w64s i (by omega)]) (rSame_l l hl d (i + 1) (by omega))
theorem rSame (l : List ByteArray) (hl : l.length ≤ 100000) : Ev (fun k => scrimref07_Same.f k l l) true :=
  Ev.congr (f := fun k => scrimref07_Same.l0 k l l ((0 : Nat) : Int)) (fun k => by rw [scrimref07_Same.f, if_pos rfl]; rfl) (rSame_l l hl l.length 0 (by omega))
/-! ### Split -/
theorem spl_len (c : UInt8) : ∀ l : List UInt8, (spl c l).length ≤ l.length + 1
  | [] => by simp [spl]
  | x :: t => by
    have ih := spl_len c t
    obtain ⟨h, r, e⟩ := spl_ne c t
    by_cases hx : x = c
    · subst hx
      rw [spl_hit]
      simp
      omega
    · rw [spl_step hx e]
      rw [e] at ih
      simp at ih ⊢
      omega
theorem trimV_eq {s : ByteArray} {l : List UInt8} (h : s.data.toList = l) : trimV s = ba (trimL l) := by rw [trimV_ba, h]
theorem rSplit (c : UInt8) : ∀ (n : Nat) (s : ByteArray), s.size ≤ n → n ≤ 1000 → Ev (fun k => scrimref07_Split.f k s (c.toNat : Int)) ((spl c s.data.toList).map fun l => ba (trimL l))
  | n, s, hn, hm => by
    have inner : ∀ (d i : Nat), i + d = s.size → c ∉ s.data.toList.take i → Ev (fun k => scrimref07_Split.l0 k s (c.toNat : Int) (i : Int)) ((spl c s.data.toList).map fun l => ba (trimL l)) := by
      intro d
      induction d with
      | zero =>
        intro i hi hc
        rw [List.take_of_length_le (by rw [← sz]; omega)] at hc
        refine Ev.step (f := fun k => (scrimref07_Trim.f k s).bind fun t157 => some [t157]) (fun k => by rw [scrimref07_Split.l0, if_neg (by omega)]) ?_
        refine Ev.bind (rTrim n s hn (by omega)) ?_
        refine (Ev.now _).eq ?_
        rw [spl_none hc, trimV_ba]
        rfl
      | succ d ih =>
        intro i hi hc
        cases hL : s.data.toList.drop i with
        | nil => exact absurd (drop_end hL) (by omega)
        | cons x t =>
          obtain ⟨h1, h2, h3⟩ := drop_at hL
          have hLs : s.data.toList = s.data.toList.take i ++ x :: t := by rw [← hL, List.take_append_drop]
          by_cases hx : x = c
          · subst hx
            cases n with
            | zero => omega
            | succ n =>
              have hx2 : (s.extract (i + 1) s.size).data.toList = t := by rw [ext_to]; exact h3
              have hx1 : (s.extract 0 i).data.toList = s.data.toList.take i := by rw [ext_data, List.drop_zero, Nat.sub_zero]
              have ht : t.length ≤ 1000 := by
                have := congrArg List.length hLs
                rw [← sz] at this
                simp at this
                omega
              refine Ev.step (f := fun k => (scrimref07_Trim.f k (s.extract 0 i)).bind fun t161 => ((scrimref07_Split.f k (s.extract (i + 1) s.size) (x.toNat : Int)).bind fun t165 => (if [t161].length + t165.length < 8796093022208 then (some ([t161] ++ t165)) else (none)))) (fun k => ?_) ?_
              · rw [scrimref07_Split.l0, if_pos (by omega), if_pos (by omega), if_pos h2, if_pos (by omega), w64s i (by omega)]
                simp only [Int.toNat_natCast, Option.bind_some, if_pos (show (0 : Int) ≤ ((i + 1 : Nat) : Int) by omega), if_pos (show ((i + 1 : Nat) : Int) ≤ (s.size : Int) by omega)]
              · refine Ev.bind (rTrim (n + 1) (s.extract 0 i) (by rw [sz, hx1, List.length_take]; omega) (by omega)) ?_
                refine Ev.bind (rSplit x n (s.extract (i + 1) s.size) (by rw [sz, ext_to, List.length_drop, ← sz]; omega) (by omega)) ?_
                rw [hx2]
                have := spl_len x t
                rw [if_pos (by simp; omega)]
                refine (Ev.now _).eq ?_
                conv => rhs; rw [hLs, spl_cut hc]
                rw [trimV_eq hx1]
                rfl
          · refine Ev.step (f := fun k => scrimref07_Split.l0 k s (c.toNat : Int) ((i + 1 : Nat) : Int)) (fun k => by rw [scrimref07_Split.l0, if_pos (by omega), if_pos (by omega), h2, if_neg (fun e => hx (byte_inj.1 e)), w64s i (by omega)]) (ih (i + 1) (by omega) ?_)
            have : s.data.toList.take (i + 1) = s.data.toList.take i ++ [x] := by
              conv => lhs; rw [hLs]
              have hti : (s.data.toList.take i).length = i := by rw [List.length_take, ← sz]; omega
              rw [List.take_append, hti, List.take_of_length_le (by omega), show i + 1 - i = 1 by omega]
              rfl
            rw [this]
            intro hm
            rcases List.mem_append.1 hm with h | h
            · exact hc h
            · rw [List.mem_singleton] at h
              exact hx h.symm
    exact Ev.step (f := fun k => scrimref07_Split.l0 k s (c.toNat : Int) ((0 : Nat) : Int)) (fun k => by rw [scrimref07_Split.f]; rfl) (inner s.size 0 (by omega) (by simp))
/-! ### Words -/
theorem rWords_l (s : ByteArray) (hs : s.size ≤ 1000) : ∀ (l : List UInt8) (i : Nat) (x3 : List ByteArray) (x4 : ByteArray), s.data.toList.drop i = l → i ≤ s.size → x3.length ≤ i → x4.size ≤ i → Ev (fun k => scrimref07_Words.l0 k s x3 x4 (i : Int)) (x3 ++ (wg x4.data.toList l).map ba)
  | [], i, x3, x4, h, hi, h3, h4 => by
    have := drop_end h
    have e : ∀ (y : List ByteArray) (z : ByteArray), Ev (fun k => scrimref07_Words.l0 k s y z ((i + 1 : Nat) : Int)) y := fun y z => Ev.step (f := fun k => some y) (fun k => by rw [scrimref07_Words.l0, if_neg (by omega)]) (Ev.now _)
    refine Ev.step (f := fun k => scrimref07_Words.j1 k s x3 x4 (i : Int) false) (fun k => by rw [scrimref07_Words.l0, if_pos (by omega), if_neg (by omega)]) ?_
    by_cases hc : x4.data.toList = []
    · refine Ev.step (f := fun k => scrimref07_Words.l0 k s x3 (⟨#[]⟩ : ByteArray) ((i + 1 : Nat) : Int)) (fun k => by rw [scrimref07_Words.j1, if_neg (by decide), toL, if_pos hc, w64s i (by omega)]) ?_
      exact (e _ _).eq (by rw [hc]; simp [wg])
    · refine Ev.step (f := fun k => scrimref07_Words.l0 k s (x3 ++ [x4]) (⟨#[]⟩ : ByteArray) ((i + 1 : Nat) : Int)) (fun k => by rw [scrimref07_Words.j1, if_neg (by decide), toL, if_neg hc, if_pos (by omega), w64s i (by omega)]) ?_
      exact (e _ _).eq (by rw [wg, if_neg hc]; simp [data_ba])
  | c :: t, i, x3, x4, h, hi, h3, h4 => by
    obtain ⟨g1, g2, g3⟩ := drop_at h
    refine Ev.step (f := fun k => scrimref07_Words.j1 k s x3 x4 (i : Int) (!(isB c))) (fun k => by rw [scrimref07_Words.l0, if_pos (by omega), if_pos (by omega), if_pos (by omega), g2, rBlank, Option.bind_some]) ?_
    cases hb : isB c with
    | false =>
      have hx : (s.extract i (i + 1)).data.toList = [c] := by rw [ext_data, h, show i + 1 - i = 1 by omega]; rfl
      have hx1 : (s.extract i (i + 1)).size = 1 := by rw [sz, hx]; rfl
      have ih := rWords_l s hs t (i + 1) x3 (x4 ++ s.extract i (i + 1)) g3 (by omega) (by omega) (by rw [ByteArray.size_append, hx1]; omega)
      refine Ev.step (f := fun k => scrimref07_Words.l0 k s x3 (x4 ++ s.extract i (i + 1)) ((i + 1 : Nat) : Int)) (fun k => ?_) (ih.eq ?_)
      · rw [scrimref07_Words.j1, if_pos (by rfl), w64s i (by omega), Int.toNat_natCast, Int.toNat_natCast, if_pos (by omega), if_pos (by omega), if_pos (by omega), if_pos (by rw [hx1]; omega)]
      · rw [wg_go hb, ByteArray.data_append, Array.toList_append, hx]
    | true =>
      by_cases hc : x4.data.toList = []
      · have ih := rWords_l s hs t (i + 1) x3 (⟨#[]⟩ : ByteArray) g3 (by omega) (by omega) (Nat.zero_le _)
        refine Ev.step (f := fun k => scrimref07_Words.l0 k s x3 (⟨#[]⟩ : ByteArray) ((i + 1 : Nat) : Int)) (fun k => by rw [scrimref07_Words.j1, if_neg (by decide), toL, if_pos hc, w64s i (by omega)]) (ih.eq ?_)
        rw [hc, wg_blank hb]
      · have ih := rWords_l s hs t (i + 1) (x3 ++ [x4]) (⟨#[]⟩ : ByteArray) g3 (by omega) (by simp; omega) (Nat.zero_le _)
        refine Ev.step (f := fun k => scrimref07_Words.l0 k s (x3 ++ [x4]) (⟨#[]⟩ : ByteArray) ((i + 1 : Nat) : Int)) (fun k => by rw [scrimref07_Words.j1, if_neg (by decide), toL, if_neg hc, if_pos (by omega), w64s i (by omega)]) (ih.eq ?_)
        rw [wg_shut hb hc]
        simp [data_ba]
theorem rWords (s : ByteArray) (hs : s.size ≤ 1000) : Ev (fun k => scrimref07_Words.f k s) (wordsV s) :=
  Ev.eq (rWords_l s hs _ 0 [] ⟨#[]⟩ rfl (by omega) (by simp) (Nat.zero_le _)) (by rw [wordsV_eq]; rfl)
/-! ### Blocks -/
def mk29 (p : List UInt8 × List UInt8) : S29 := ⟨ba (trimL p.1), ba (trimL p.2)⟩
def mk28 (p : List UInt8 × List UInt8) : S28 := ⟨ba (trimL p.1), ba (trimL p.2)⟩
theorem iAny (s : ByteArray) (h : s.size ≤ 1000000) : strings_IndexAny.f s ⟨#[123, 125]⟩ = some (Lib.indexAny s.data.toList [123, 125]) := by
  unfold strings_IndexAny.f
  rw [if_pos (by omega), if_pos (by decide), if_pos (by decide), if_pos (by decide)]
theorem iCut (s : ByteArray) (h : s.size ≤ 1000000) : strings_Cut.f s ⟨#[125]⟩ = some (ba (Lib.cut s.data.toList [125]).1, ba (Lib.cut s.data.toList [125]).2.1, (Lib.cut s.data.toList [125]).2.2) := by
  unfold strings_Cut.f
  rw [if_pos (by omega), if_pos (by decide)]
  rfl
theorem iTrim (s : ByteArray) (h : s.size ≤ 1000000) : scan_Trim.f s = some (trimV s) := by
  unfold scan_Trim.f
  rw [if_pos (by omega)]
theorem gBlocks : ∀ (n : Nat) (s : ByteArray) (x3 : List S29), s.size ≤ n → n ≤ 100000 → x3.length + n ≤ 1000000 → Ev (fun k => scan_Blocks.l0 k s x3) (x3 ++ (bgo none [] s.data.toList).map mk29)
  | n, s, x3, hn, hm, hx => by
    rcases any_spec [123, 125] s.data.toList with ⟨h1, h2⟩ | ⟨p, b, t, h1, h2, h3, h4⟩
    · have hnone : bgo none [] s.data.toList = [] := by
        have := bgo_none_app (t := []) (p := s.data.toList) (cur := []) (fun c hc => by
          have := h2 c hc
          simp at this
          exact this)
        rw [List.append_nil] at this
        rw [this, bgo_nil]
      refine Ev.step (f := fun k => some x3) (fun k => by rw [scan_Blocks.l0, iAny s (by omega), h1, Option.bind_some, if_pos (by decide)]) ?_
      exact (Ev.now _).eq (by rw [hnone]; simp)
    · have hp : ∀ c ∈ p, c ≠ 123 ∧ c ≠ 125 := fun c hc => by
        have := h2 c hc
        simp at this
        exact this
      have hd : s.data.toList.drop p.length = b :: t := by rw [h1, List.drop_left]
      obtain ⟨g1, g2, g3⟩ := drop_at hd
      have hx2 : (s.extract (p.length + 1) s.size).data.toList = t := by rw [ext_to]; exact g3
      have hlen : s.size = p.length + (t.length + 1) := by rw [sz, h1]; simp
      cases n with
      | zero => omega
      | succ n =>
        have hxs : (s.extract (p.length + 1) s.size).size ≤ n := by rw [sz, hx2]; omega
        have hb : b = 123 ∨ b = 125 := by simpa using h3
        rcases hb with rfl | rfl
        · refine Ev.step (f := fun k => (strings_Cut.f (s.extract (p.length + 1) s.size) (⟨#[125]⟩ : ByteArray)).bind fun bt102 => (if bt102.2.2 = true then (if (p.length : Int) ≤ (s.size : Int) then ((scan_Trim.f (s.extract 0 (p.length : Int).toNat)).bind fun t105 => ((scan_Trim.f bt102.1).bind fun t106 => (if x3.length < 4398046511104 then (scan_Blocks.l0 k bt102.2.1 (x3 ++ [(⟨t105, t106⟩ : S29)])) else (none)))) else (none)) else (some x3))) (fun k => ?_) ?_
          · rw [scan_Blocks.l0, iAny s (by omega), h4, Option.bind_some, if_neg (by omega), if_pos (by omega), if_pos (by omega), g2, if_neg (by decide), w64s p.length (by omega), if_pos (by omega), if_pos (by omega), Int.toNat_natCast]
          · rw [iCut _ (by omega), hx2]
            simp only [Option.bind_some]
            rcases cut_spec 125 t with ⟨c1, c2⟩ | ⟨q, u, c1, c2, c3⟩
            · rw [c1]
              simp only [Bool.false_eq_true, if_false]
              refine (Ev.now _).eq ?_
              have e2 := bgo_some_app (hd := p) (t := []) (p := t) (cur := []) (fun c hc e => c2 (e ▸ hc))
              rw [List.append_nil] at e2
              rw [h1, bgo_none_app hp, bgo_open, List.nil_append, e2, bgo_nil]
              simp
            · rw [c3]
              have hxa : (s.extract 0 p.length).data.toList = p := by rw [ext_data, List.drop_zero, Nat.sub_zero, h1, List.take_left]
              have hul : u.length + q.length + 1 = t.length := by rw [c1]; simp; omega
              simp only [if_true, if_pos (show (p.length : Int) ≤ (s.size : Int) by omega), Int.toNat_natCast]
              rw [iTrim _ (by rw [sz, hxa]; omega), iTrim _ (by rw [sz, ba_data]; omega)]
              simp only [Option.bind_some, if_pos (show x3.length < 4398046511104 by omega)]
              rw [trimV_eq hxa, trimV_eq (ba_data q)]
              have ih := gBlocks n (ba u) (x3 ++ [mk29 (p, q)]) (by rw [sz, ba_data]; omega) (by omega) (by simp; omega)
              refine Ev.eq ih ?_
              rw [ba_data, h1, bgo_none_app hp, bgo_open, List.nil_append, c1, bgo_some_app (fun c hc e => c2 (e ▸ hc)), bgo_shut]
              simp
        · refine Ev.step (f := fun k => scan_Blocks.l0 k (s.extract (p.length + 1) s.size) x3) (fun k => ?_) ((gBlocks n (s.extract (p.length + 1) s.size) x3 hxs (by omega) (by omega)).eq ?_)
          · rw [scan_Blocks.l0, iAny s (by omega), h4, Option.bind_some, if_neg (by omega), if_pos (by omega), if_pos (by omega), g2, if_pos (by decide), w64s p.length (by omega), if_pos (by omega), if_pos (by omega), Int.toNat_natCast]
          · rw [hx2, h1, bgo_none_app hp, bgo_reset]
theorem take_next {l t : List UInt8} {a i : Nat} {c : UInt8} (h : l.drop i = c :: t) (ha : a ≤ i) : (l.drop a).take (i + 1 - a) = (l.drop a).take (i - a) ++ [c] := by
  have e : (l.drop a).drop (i - a) = c :: t := by rw [List.drop_drop, show a + (i - a) = i by omega]; exact h
  have hl : i - a < (l.drop a).length := by
    apply Nat.lt_of_not_le
    intro hh
    rw [List.drop_eq_nil_of_le hh] at e
    cases e
  have e2 : (l.drop a)[i - a] = c := by
    rw [List.drop_eq_getElem_cons hl] at e
    exact (List.cons.inj e).1
  rw [show i + 1 - a = (i - a) + 1 by omega, List.take_succ_eq_append_getElem hl, e2]
theorem rBlocks_l (s : ByteArray) (hs : s.size ≤ 1000) : ∀ (l : List UInt8) (i : Nat) (x3 : List S28) (a : Nat), s.data.toList.drop i = l → i ≤ s.size → a ≤ i → x3.length ≤ i →
    Ev (fun k => scrimref07_Blocks.l0 k s x3 (a : Int) (-1) (i : Int)) (x3 ++ (bgo none ((s.data.toList.drop a).take (i - a)) l).map mk28) ∧
    ∀ j : Nat, a ≤ j → j + 1 ≤ i → Ev (fun k => scrimref07_Blocks.l0 k s x3 (a : Int) (j : Int) (i : Int)) (x3 ++ (bgo (some ((s.data.toList.drop a).take (j - a))) ((s.data.toList.drop (j + 1)).take (i - (j + 1))) l).map mk28)
  | [], i, x3, a, h, hi, ha, h3 => by
    have := drop_end h
    refine ⟨Ev.step (f := fun k => some x3) (fun k => by rw [scrimref07_Blocks.l0, if_neg (by omega)]) ((Ev.now _).eq (by rw [bgo_nil]; simp)), fun j _ _ => Ev.step (f := fun k => some x3) (fun k => by rw [scrimref07_Blocks.l0, if_neg (by omega)]) ((Ev.now _).eq (by rw [bgo_nil]; simp))⟩
  | c :: t, i, x3, a, h, hi, ha, h3 => by
    obtain ⟨g1, g2, g3⟩ := drop_at h
    have e125 : ((c.toNat : Int) = 125) ↔ c = 125 := byte_inj (d := 125)
    have e123 : ((c.toNat : Int) = 123) ↔ c = 123 := byte_inj (d := 123)
    have none2 : ∀ x5 : Int, c ≠ 125 → ∀ (a : Nat) (r : List S28), Ev (fun k => scrimref07_Blocks.l0 k s x3 (a : Int) x5 ((i + 1 : Nat) : Int)) r → Ev (fun k => scrimref07_Blocks.j2 k s x3 (a : Int) x5 (i : Int)) r := fun x5 hc a r hr =>
      Ev.step (fun k => by rw [scrimref07_Blocks.j2, if_pos (by omega), if_pos (by omega), g2, if_neg (fun e => hc (e125.1 e)), w64s i (by omega)]) hr
    constructor
    · have shut : ∀ r : List S28, Ev (fun k => scrimref07_Blocks.j2 k s x3 (a : Int) (-1) (i : Int)) r → c ≠ 123 → Ev (fun k => scrimref07_Blocks.l0 k s x3 (a : Int) (-1) (i : Int)) r := fun r hr hc =>
        Ev.step (f := fun k => scrimref07_Blocks.j1 k s x3 (a : Int) (-1) (i : Int) false) (fun k => by rw [scrimref07_Blocks.l0, if_pos (by omega), if_pos (by omega), g2, if_neg (fun e => hc (e123.1 e))])
          (Ev.step (fun k => by rw [scrimref07_Blocks.j1, if_neg (by decide)]) hr)
      by_cases h123 : c = 123
      · subst h123
        have ih := (rBlocks_l s hs t (i + 1) x3 a g3 (by omega) (by omega) (by omega)).2 i ha (Nat.le_refl _)
        refine Ev.step (f := fun k => scrimref07_Blocks.j1 k s x3 (a : Int) (-1) (i : Int) true) (fun k => by rw [scrimref07_Blocks.l0, if_pos (by omega), if_pos (by omega), g2, if_pos (by decide)]; rfl) ?_
        refine Ev.step (f := fun k => scrimref07_Blocks.j2 k s x3 (a : Int) (i : Int) (i : Int)) (fun k => by rw [scrimref07_Blocks.j1, if_pos rfl]) ?_
        refine none2 _ (by decide) a _ (ih.eq ?_)
        rw [bgo_open, show i + 1 - (i + 1) = 0 by omega, List.take_zero]
      · refine shut _ ?_ h123
        by_cases h125 : c = 125
        · subst h125
          have ih := (rBlocks_l s hs t (i + 1) x3 (i + 1) g3 (by omega) (by omega) (by omega)).1
          refine Ev.step (f := fun k => scrimref07_Blocks.l0 k s x3 ((i + 1 : Nat) : Int) (-1) ((i + 1 : Nat) : Int)) (fun k => by rw [scrimref07_Blocks.j2, if_pos (by omega), if_pos (by omega), g2, if_pos (by decide), if_neg (by decide), w64s i (by omega)]) (ih.eq ?_)
          rw [bgo_reset, show i + 1 - (i + 1) = 0 by omega, List.take_zero]
        · have ih := (rBlocks_l s hs t (i + 1) x3 a g3 (by omega) (by omega) (by omega)).1
          refine none2 _ h125 a _ (ih.eq ?_)
          rw [bgo_none h123 h125, take_next h ha]
    · intro j haj hji
      have ent : ∀ r : List S28, Ev (fun k => scrimref07_Blocks.j2 k s x3 (a : Int) (j : Int) (i : Int)) r → Ev (fun k => scrimref07_Blocks.l0 k s x3 (a : Int) (j : Int) (i : Int)) r := fun r hr => by
        refine Ev.step (f := fun k => scrimref07_Blocks.j1 k s x3 (a : Int) (j : Int) (i : Int) false) (fun k => ?_) (Ev.step (fun k => by rw [scrimref07_Blocks.j1, if_neg (by decide)]) hr)
        rw [scrimref07_Blocks.l0, if_pos (by omega), if_pos (by omega), g2, decide_eq_false (show ¬ ((j : Int) < 0) by omega)]
        split <;> rfl
      refine ent _ ?_
      by_cases h125 : c = 125
      · subst h125
        have hxa : (s.extract a j).data.toList = (s.data.toList.drop a).take (j - a) := ext_data s a j
        have hxb : (s.extract (j + 1) i).data.toList = (s.data.toList.drop (j + 1)).take (i - (j + 1)) := ext_data s (j + 1) i
        have la : (s.extract a j).size ≤ 1000 := by rw [ByteArray.size_extract]; omega
        have lb : (s.extract (j + 1) i).size ≤ 1000 := by rw [ByteArray.size_extract]; omega
        refine Ev.step (f := fun k => (scrimref07_Trim.f k (s.extract a j)).bind fun t141 => ((scrimref07_Trim.f k (s.extract (j + 1) i)).bind fun t142 => scrimref07_Blocks.l0 k s (x3 ++ [(⟨t141, t142⟩ : S28)]) ((i + 1 : Nat) : Int) (-1) ((i + 1 : Nat) : Int))) (fun k => ?_) ?_
        · rw [scrimref07_Blocks.j2, if_pos (by omega), if_pos (by omega), g2, if_pos (by decide), if_pos (by omega), if_pos (by omega), if_pos (by omega), if_pos (by omega), w64s i (by omega), w64s j (by omega)]
          simp only [Int.toNat_natCast, if_pos (show (0 : Int) ≤ ((j + 1 : Nat) : Int) by omega), if_pos (show ((j + 1 : Nat) : Int) ≤ (i : Int) by omega), if_pos (show (i : Int) ≤ (s.size : Int) by omega), if_pos (show x3.length < 4398046511104 by omega)]
        · refine Ev.bind (rTrim _ _ la (by omega)) ?_
          refine Ev.bind (rTrim _ _ lb (by omega)) ?_
          rw [trimV_eq hxa, trimV_eq hxb]
          have ih := (rBlocks_l s hs t (i + 1) (x3 ++ [mk28 ((s.data.toList.drop a).take (j - a), (s.data.toList.drop (j + 1)).take (i - (j + 1)))]) (i + 1) g3 (by omega) (by omega) (by simp; omega)).1
          refine Ev.eq ih ?_
          rw [bgo_shut, show i + 1 - (i + 1) = 0 by omega, List.take_zero]
          simp
      · have ih := (rBlocks_l s hs t (i + 1) x3 a g3 (by omega) (by omega) (by omega)).2 j haj (by omega)
        refine none2 _ h125 a _ (ih.eq ?_)
        rw [bgo_some h125, take_next h hji]
theorem bgo_len : ∀ (l : List UInt8) (o : Option (List UInt8)) (cur : List UInt8), (bgo o cur l).length ≤ l.length
  | [], o, cur => by rw [bgo_nil]; simp
  | c :: t, none, cur => by
    have i1 := bgo_len t (some cur) []
    have i2 := bgo_len t none []
    have i3 := bgo_len t none (cur ++ [c])
    unfold bgo
    split
    · simp; omega
    · split <;> simp <;> omega
  | c :: t, some h, cur => by
    have i2 := bgo_len t none []
    have i3 := bgo_len t (some h) (cur ++ [c])
    unfold bgo
    split <;> simp <;> omega
/-! ### the law -/
theorem gBlocks0 (s : ByteArray) (hs : s.size ≤ 100000) : Ev (fun k => scan_Blocks.f k s) ((bgo none [] s.data.toList).map mk29) := Ev.eq (gBlocks s.size s [] (Nat.le_refl _) hs (by simp; omega)) (by simp)
theorem rBlocks0 (s : ByteArray) (hs : s.size ≤ 1000) : Ev (fun k => scrimref07_Blocks.f k s) ((bgo none [] s.data.toList).map mk28) := by
  have h := (rBlocks_l s hs _ 0 [] 0 rfl (by omega) (by omega) (by simp)).1
  exact Ev.eq h (by simp)
theorem rd29 (bs : List (List UInt8 × List UInt8)) {i : Nat} (h : i < bs.length) : rd_T29 (bs.map mk29) (i : Int) = mk29 bs[i] := by
  unfold rd_T29
  rw [Int.toNat_natCast, List.getD, List.getElem?_map, List.getElem?_eq_getElem h]
  rfl
theorem rd28 (bs : List (List UInt8 × List UInt8)) {i : Nat} (h : i < bs.length) : rd_T28 (bs.map mk28) (i : Int) = mk28 bs[i] := by
  unfold rd_T28
  rw [Int.toNat_natCast, List.getD, List.getElem?_map, List.getElem?_eq_getElem h]
  rfl
theorem tells_l (s : ByteArray) (hs : s.size ≤ 1000) (c : UInt8) (bs : List (List UInt8 × List UInt8)) (hb : bs.length ≤ 1000) : ∀ (d i : Nat), i + d = bs.length →
    Ev (fun k => scrimlaw07_ScanTells.l0 k s (c.toNat : Int) (bs.map mk29) (bs.map mk28) (bs.length : Int) (i : Int)) true
  | 0, i, h => by
    have hl : s.size < 4294967281 := by omega
    have e1 : scan_Strip.f s = some (stripV s) := by unfold scan_Strip.f; rw [if_pos hl]
    have e2 : scan_Trim.f s = some (trimV s) := by unfold scan_Trim.f; rw [if_pos hl]
    have e3 : scan_Split.f s (c.toNat : Int) = some ((spl c s.data.toList).map fun l => ba (trimL l)) := by
      unfold scan_Split.f
      rw [if_pos hl, splitV_eq, Int.toNat_natCast]
      simp
    have e4 : scan_Words.f s = some (wordsV s) := by unfold scan_Words.f; rw [if_pos hl]
    have e5 : scan_Lower.f s = some (lowV s) := by unfold scan_Lower.f; rw [if_pos hl]
    have l1 : ((spl c s.data.toList).map fun l => ba (trimL l)).length ≤ 100000 := by
      have := spl_len c s.data.toList
      rw [← sz] at this
      rw [List.length_map]
      omega
    have l2 : (wordsV s).length ≤ 100000 := by
      have h : (wordsV s).length ≤ s.size + 1 := by
        unfold wordsV
        rw [List.length_map]
        have : ∀ (k : Nat) (l : List UInt8), (wordsF k l).length ≤ k := by
          intro k
          induction k with
          | zero => intro l; simp [wordsF]
          | succ k ih =>
            intro l
            unfold wordsF
            split
            · simp
            · simp
              exact ih _
        exact this _ _
      omega
    refine Ev.step (fun k => by rw [scrimlaw07_ScanTells.l0, if_neg (by omega), e1, Option.bind_some]) ?_
    refine Ev.bind (rStrip s hs) ?_
    simp only [if_true, e2, e3, e4, e5, Option.bind_some]
    refine Ev.bind (rTrim 1000 s hs (by omega)) ?_
    simp only [if_true]
    refine Ev.bind (rSplit c 1000 s hs (by omega)) ?_
    refine Ev.bind (rSame _ l1) ?_
    simp only [if_true]
    refine Ev.bind (rWords s hs) ?_
    refine Ev.bind (rSame _ l2) ?_
    simp only [if_true]
    refine Ev.bind (rLower s hs) ?_
    simp only [beq_self_eq_true]
    exact Ev.now _
  | d + 1, i, h => by
    refine Ev.step (f := fun k => scrimlaw07_ScanTells.l0 k s (c.toNat : Int) (bs.map mk29) (bs.map mk28) (bs.length : Int) ((i + 1 : Nat) : Int)) (fun k => ?_) (tells_l s hs c bs hb d (i + 1) (by omega))
    rw [scrimlaw07_ScanTells.l0, if_pos (by omega), if_pos (by omega), if_pos (by rw [List.length_map]; omega), if_pos (by rw [List.length_map]; omega), rd29 bs (by omega), rd28 bs (by omega), w64s i (by omega)]
    simp [mk29, mk28]
theorem ScanTells : scrimlaw07_ScanTells.Pure := by
  intro a0 a1 _ hw
  obtain ⟨c, rfl⟩ : ∃ c : UInt8, a1 = (c.toNat : Int) := by
    have hr : 0 ≤ a1 ∧ a1 ≤ 255 := by simpa [Lit.wf, IntKind.min, IntKind.max, IntKind.bits, IntKind.signed] using hw
    exact ⟨UInt8.ofNat a1.toNat, by
      have : (UInt8.ofNat a1.toNat).toNat = a1.toNat := by
        rw [UInt8.toNat_ofNat']
        omega
      rw [this]
      omega⟩
  refine Ev.rounds (g := fun k => scrimlaw07_ScanTells.f k a0 (c.toNat : Int)) ?_
  unfold scrimlaw07_ScanTells.f
  refine Ev.bind awake ?_
  simp only [if_true]
  by_cases hs : (a0.size : Int) > 1000
  · simp only [if_pos hs]; exact Ev.now _
  · simp only [if_neg hs]
    have hs' : a0.size ≤ 1000 := by omega
    have hbl : (bgo none [] a0.data.toList).length ≤ 1000 := by
      have := bgo_len a0.data.toList none []
      rw [← sz] at this
      omega
    refine Ev.bind (gBlocks0 a0 (by omega)) ?_
    refine Ev.bind (rBlocks0 a0 hs') ?_
    simp only [List.length_map, if_true]
    exact tells_l a0 hs' c _ hbl (bgo none [] a0.data.toList).length 0 (by omega)
end Go.Proofs.YtdifaomkaekglaaDoor.Pure
