/- The reference's functions of the Scan laws compute the same machines as the given program's. -/
import Derived.Test.YtdifaomkaekglaaDoorPSa
import Derived.Test.YtdifaomkaekglaaDoorScQ
set_option linter.unusedVariables false
set_option linter.unusedSimpArgs false
namespace Go.Proofs.YtdifaomkaekglaaDoor.Pure
open Go.RowKit Go.Proofs.YtdifaomkaekglaaDoor.HS Go.Proofs.YtdifaomkaekglaaDoorW.PrintWords Go.Proofs.YtdifaomkaekglaaDoorW.PrintLast Go.Proofs.Scn
theorem w64 {n : Int} (h1 : -9223372036854775808 ≤ n) (h2 : n ≤ 9223372036854775807) : wrap64 n = n := by unfold wrap64; omega
theorem w64s (i : Nat) (h : i < 1000000) : wrap64 ((i : Int) + 1) = ((i + 1 : Nat) : Int) := by rw [w64 (by omega) (by omega)]; omega
theorem w64t (i : Nat) (h : i < 1000000) : wrap64 ((i : Int) + 2) = ((i + 2 : Nat) : Int) := by rw [w64 (by omega) (by omega)]; omega
theorem _root_.Go.Proofs.YtdifaomkaekglaaDoorW.PrintWords.Ev.eq {α : Type} {g : Nat → Option α} {a b : α} (h : Ev g a) (e : a = b) : Ev g b := e ▸ h
theorem toL (s : ByteArray) : s.toList = s.data.toList := Lib.toList_data s
theorem sz (s : ByteArray) : s.size = s.data.toList.length := Lib.size_eq s
theorem toL_inj {s t : ByteArray} (h : s.toList = t.toList) : s = t := ba_ext (by rw [← toL, ← toL, h])
/-- what stands from a place on -/
theorem drop_at {s : ByteArray} {i : Nat} {c : UInt8} {t : List UInt8} (h : s.data.toList.drop i = c :: t) : i < s.size ∧ bt s (i : Int) = (c.toNat : Int) ∧ s.data.toList.drop (i + 1) = t := by
  have hl : i < s.data.toList.length := by
    apply Nat.lt_of_not_le
    intro hh
    rw [List.drop_eq_nil_of_le hh] at h
    cases h
  have h2 : i < s.size := by rw [sz]; exact hl
  have h3 : s.data.toList[i] = c ∧ s.data.toList.drop (i + 1) = t := by
    rw [List.drop_eq_getElem_cons hl] at h
    exact List.cons.inj h
  refine ⟨h2, ?_, h3.2⟩
  unfold bt
  rw [dif_pos (by rw [Int.toNat_natCast]; exact h2)]
  congr 2
  rw [← h3.1]
  simp [ByteArray.getElem_eq_getElem_data]
theorem drop_end {s : ByteArray} {i : Nat} (h : s.data.toList.drop i = []) : s.size ≤ i := by
  rw [sz]
  exact List.drop_eq_nil_iff.1 h
theorem ext_data (s : ByteArray) (a b : Nat) : (s.extract a b).data.toList = (s.data.toList.drop a).take (b - a) := by
  rw [ByteArray.data_extract, Array.toList_extract]
theorem ext_to (s : ByteArray) (a : Nat) : (s.extract a s.size).data.toList = s.data.toList.drop a := by
  rw [ext_data, List.take_of_length_le]
  rw [List.length_drop, ← sz]
  exact Nat.le_refl _
theorem byte_inj {c d : UInt8} : ((c.toNat : Int) = (d.toNat : Int)) ↔ c = d := by
  constructor
  · intro h
    exact UInt8.toNat_inj.1 (by omega)
  · rintro rfl; rfl
/-! ### Blank -/
theorem rBlank (c : UInt8) : scrimref07_Blank.f (c.toNat : Int) = some (isB c) := by
  have h : ((List.range 256).all fun n => decide (scrimref07_Blank.f (n : Int) = some (isB (UInt8.ofNat n)))) = true := by kernel_rfl
  have h2 := List.all_eq_true.1 h c.toNat (List.mem_range.2 c.toNat_lt)
  have h3 := of_decide_eq_true h2
  rw [h3]
  simp
/-! ### Trim -/
theorem rTrim : ∀ (n : Nat) (s : ByteArray), s.size ≤ n → n < 1000000 → Ev (fun k => scrimref07_Trim.f k s) (trimV s)
  | n, s, hn, hm => by
    cases hL : s.data.toList with
    | nil =>
      have e : s.toList = [] := by rw [toL, hL]
      refine Ev.step (f := fun k => scrimref07_Trim.j0 k s false) (fun k => by rw [scrimref07_Trim.f, if_pos e]) ?_
      refine Ev.step (f := fun k => some s) (fun k => by rw [scrimref07_Trim.j0, if_neg (by decide), if_pos e]) ?_
      refine (Ev.now s).eq ?_
      rw [trimV_ba, hL, ← data_ba s, hL]
      rfl
    | cons c t =>
      have e : ¬ s.toList = [] := by rw [toL, hL]; simp
      obtain ⟨h0, hb, ht⟩ := drop_at (s := s) (i := 0) (c := c) (t := t) (by rw [List.drop_zero, hL])
      have hb0 : bt s 0 = (c.toNat : Int) := hb
      have hsz : s.size = t.length + 1 := by rw [sz, hL]; rfl
      refine Ev.step (f := fun k => (scrimref07_Blank.f (bt s 0)).bind fun t134 => scrimref07_Trim.j0 k s t134) (fun k => by rw [scrimref07_Trim.f, if_neg e, if_pos (by omega)]) ?_
      simp only [hb0, rBlank, Option.bind_some]
      cases hc : isB c with
      | true =>
        cases n with
        | zero => omega
        | succ n =>
          have hx : (s.extract 1 s.size).data.toList = t := by rw [ext_to]; exact ht
          refine Ev.step (f := fun k => (scrimref07_Trim.f k (s.extract 1 s.size)).bind fun t135 => some t135) (fun k => by rw [scrimref07_Trim.j0, if_pos rfl, if_pos (by omega)]) ?_
          refine Ev.bind (rTrim n (s.extract 1 s.size) (by rw [sz, hx]; omega) (by omega)) ?_
          refine (Ev.now _).eq ?_
          rw [trimV_ba, trimV_ba, hx, hL, trim_cons hc]
      | false =>
        have w1 : wrap64 ((s.size : Int) - 1) = ((t.length : Nat) : Int) := by rw [w64 (by omega) (by omega)]; omega
        obtain ⟨u, d, hu⟩ : ∃ u d, s.data.toList = u ++ [d] := ⟨(c :: t).dropLast, (c :: t).getLast (by simp), by rw [hL, List.dropLast_concat_getLast]⟩
        have hul : u.length = t.length := by
          have := congrArg List.length (hL.symm.trans hu)
          simp at this
          omega
        obtain ⟨h1, hb1, _⟩ := drop_at (s := s) (i := t.length) (c := d) (t := []) (by rw [hu, ← hul, List.drop_left])
        refine Ev.step (f := fun k => (scrimref07_Blank.f (bt s (t.length : Int))).bind fun t136 => (if t136 = true then (if ((t.length : Nat) : Int) ≤ (s.size : Int) then ((scrimref07_Trim.f k (s.extract 0 ((t.length : Nat) : Int).toNat)).bind fun t137 => (some t137)) else (none)) else (some s)))
          (fun k => by rw [scrimref07_Trim.j0, if_neg (by decide), if_neg e, w1, if_pos (by omega), if_pos (by omega)]) ?_
        simp only [hb1, rBlank, Option.bind_some]
        cases hd : isB d with
        | true =>
          cases n with
          | zero => omega
          | succ n =>
            have hx : (s.extract 0 t.length).data.toList = u := by rw [ext_data, hu, List.drop_zero, ← hul, Nat.sub_zero, List.take_left]
            simp only [if_true, if_pos (show ((t.length : Nat) : Int) ≤ (s.size : Int) by omega), Int.toNat_natCast]
            refine Ev.bind (rTrim n (s.extract 0 t.length) (by rw [sz, hx]; omega) (by omega)) ?_
            refine (Ev.now _).eq ?_
            rw [trimV_ba, trimV_ba, hx, hu, trim_snoc hd]
        | false =>
          simp only [Bool.false_eq_true, if_false]
          refine (Ev.now s).eq ?_
          rw [trimV_ba, trim_tidy, data_ba]
          constructor
          · intro x hx
            rw [hL] at hx
            simp at hx
            rw [← hx]
            exact hc
          · intro x hx
            rw [hu] at hx
            simp at hx
            rw [← hx]
            exact hd
/-! ### Lower -/
theorem low_num (c : UInt8) : ((65 ≤ (c.toNat : Int) ∧ (c.toNat : Int) ≤ 90) → (((c.toNat : Int) + 32) % 256) = ((lowB c).toNat : Int)) ∧ (¬ (65 ≤ (c.toNat : Int) ∧ (c.toNat : Int) ≤ 90) → (c.toNat : Int) = ((lowB c).toNat : Int)) := by
  have h : ((List.range 256).all fun n => (if 65 ≤ n ∧ n ≤ 90 then ((((n : Int) + 32) % 256) == ((lowB (UInt8.ofNat n)).toNat : Int)) else ((n : Int) == ((lowB (UInt8.ofNat n)).toNat : Int)))) = true := by kernel_rfl
  have h2 := List.all_eq_true.1 h c.toNat (List.mem_range.2 c.toNat_lt)
  rw [show UInt8.ofNat c.toNat = c by simp] at h2
  constructor
  · intro hc
    rw [if_pos (by omega)] at h2
    exact beq_iff_eq.1 h2
  · intro hc
    rw [if_neg (by omega)] at h2
    exact beq_iff_eq.1 h2
def num (c : UInt8) : Int := (c.toNat : Int)
theorem str_num (l : List UInt8) : strOfNums (l.map num) = ba l := by
  unfold strOfNums ba
  congr 2
  rw [List.map_map]
  conv => rhs; rw [← List.map_id l]
  apply List.map_congr_left
  intro c _
  simp [num]
theorem rLower_l (s : ByteArray) (hs : s.size ≤ 1000) : ∀ (l : List UInt8) (i : Nat) (x3 : List Int), s.data.toList.drop i = l → x3.length ≤ i → i ≤ 2000 → Ev (fun k => scrimref07_Lower.l0 k s x3 (i : Int)) (strOfNums (x3 ++ l.map fun c => num (lowB c)))
  | [], i, x3, h, hx, hi => by
    have := drop_end h
    refine Ev.step (f := fun k => some (strOfNums x3)) (fun k => by rw [scrimref07_Lower.l0, if_neg (by omega)]) ?_
    exact (Ev.now _).eq (by simp)
  | c :: t, i, x3, h, hx, hi => by
    obtain ⟨h1, h2, h3⟩ := drop_at h
    have ih := rLower_l s hs t (i + 1) (x3 ++ [num (lowB c)]) h3 (by simp; omega) (by omega)
    rw [List.append_assoc] at ih
    refine Ev.step (f := fun k => scrimref07_Lower.l0 k s (x3 ++ [num (lowB c)]) ((i + 1 : Nat) : Int)) (fun k => ?_) ih
    rw [scrimref07_Lower.l0, if_pos (by omega), if_pos (by omega), h2, w64s i (by omega)]
    obtain ⟨l1, l2⟩ := low_num c
    by_cases ha : 65 ≤ (c.toNat : Int)
    · rw [if_pos ha]
      by_cases hb : (c.toNat : Int) ≤ 90
      · rw [if_pos hb, if_pos (by omega), l1 ⟨ha, hb⟩]; rfl
      · rw [if_neg hb, if_pos (by omega), l2 (fun x => hb x.2)]; rfl
    · rw [if_neg ha, if_pos (by omega), l2 (fun x => ha x.1)]; rfl
theorem rLower (s : ByteArray) (hs : s.size ≤ 1000) : Ev (fun k => scrimref07_Lower.f k s) (lowV s) := by
  refine Ev.eq (rLower_l s hs _ 0 [] rfl (by simp) (by omega)) ?_
  have := str_num (s.data.toList.map lowB)
  rw [List.map_map] at this
  exact this
/-! ### Strip -/
theorem rHas {s : ByteArray} {i : Nat} {c : UInt8} {t : List UInt8} (a b : UInt8) (h : s.data.toList.drop i = c :: t) (hs : s.size ≤ 1000) (hi : i ≤ 2000) : scrimref07_has.f s (i : Int) ⟨#[a, b]⟩ = some (decide (c = a ∧ t.head? = some b)) := by
  obtain ⟨h1, h2, h3⟩ := drop_at h
  have e2 : ((⟨#[a, b]⟩ : ByteArray).size : Int) = 2 := rfl
  unfold scrimref07_has.f
  rw [if_pos (by omega), e2, w64t i (by omega)]
  have hlen : s.size = i + (t.length + 1) := by
    have := congrArg List.length h
    rw [List.length_drop, ← sz] at this
    simp at this
    omega
  cases t with
  | nil =>
    rw [if_neg (by simp at hlen; omega)]
    simp
  | cons d u =>
    simp at hlen
    rw [if_pos (by omega), if_pos (by omega), if_pos (by omega), toL, toL, Int.toNat_natCast, Int.toNat_natCast, ext_data, h]
    have : i + 2 - i = 2 := by omega
    rw [this]
    congr 1
    rw [Bool.eq_iff_iff]
    simp
theorem rStrip_l (s : ByteArray) (hs : s.size ≤ 1000) : ∀ (n : Nat) (l : List UInt8) (i : Nat) (x3 : List Int), l.length ≤ n → s.data.toList.drop i = l → x3.length ≤ i → i ≤ 1002 →
    Ev (fun k => scrimref07_Strip.l0 k s x3 (i : Int)) (strOfNums (x3 ++ (scn false l).map num)) ∧ Ev (fun k => scrimref07_Strip.l1 k s x3 (i : Int)) (strOfNums (x3 ++ (scn true l).map num))
  | n, [], i, x3, hn, h, hx, hi => by
    have := drop_end h
    have e : ∀ j : Nat, s.size ≤ j → Ev (fun k => scrimref07_Strip.l0 k s x3 (j : Int)) (strOfNums (x3 ++ (scn false []).map num)) := fun j hj => by
      refine Ev.step (f := fun k => some (strOfNums x3)) (fun k => by rw [scrimref07_Strip.l0, if_neg (by omega)]) ?_
      exact (Ev.now _).eq (by simp [scn_nil])
    refine ⟨e i this, ?_⟩
    refine Ev.step (f := fun k => scrimref07_Strip.l0 k s x3 ((i + 2 : Nat) : Int)) (fun k => by rw [scrimref07_Strip.l1, if_neg (by omega), w64t i (by omega)]) ?_
    exact (e (i + 2) (by omega)).eq (by simp [scn_nil])
  | 0, c :: t, i, x3, hn, h, hx, hi => by simp at hn
  | n + 1, c :: t, i, x3, hn, h, hx, hi => by
    obtain ⟨h1, h2, h3⟩ := drop_at h
    simp at hn
    constructor
    · by_cases hc : c = 47 ∧ t.head? = some 42
      · obtain ⟨u, hu⟩ := two_head (d := 0) 47 42 hc
        obtain ⟨rfl, rfl⟩ := List.cons.inj hu
        obtain ⟨g1, g2, g3⟩ := drop_at h3
        have ih := (rStrip_l s hs n u (i + 2) (x3 ++ [32]) (by simp at hn; omega) g3 (by simp; omega) (by omega)).2
        rw [List.append_assoc] at ih
        refine Ev.step (f := fun k => scrimref07_Strip.l1 k s (x3 ++ [32]) ((i + 2 : Nat) : Int)) (fun k => ?_) (ih.eq (by rw [scn_open]; rfl))
        rw [scrimref07_Strip.l0, if_pos (by omega), rHas 47 42 h hs (by omega), Option.bind_some, if_pos (decide_eq_true hc), if_pos (by omega), w64t i (by omega)]
      · have ih := (rStrip_l s hs n t (i + 1) (x3 ++ [num c]) (by omega) h3 (by simp; omega) (by omega)).1
        rw [List.append_assoc] at ih
        refine Ev.step (f := fun k => scrimref07_Strip.l0 k s (x3 ++ [num c]) ((i + 1 : Nat) : Int)) (fun k => ?_) (ih.eq (by rw [scn_go hc]; rfl))
        rw [scrimref07_Strip.l0, if_pos (by omega), rHas 47 42 h hs (by omega), Option.bind_some, if_neg (by rw [decide_eq_true_eq]; exact hc), if_pos (by omega), if_pos (by omega), w64s i (by omega), h2]
        rfl
    · by_cases hc : c = 42 ∧ t.head? = some 47
      · obtain ⟨u, hu⟩ := two_head (d := 0) 42 47 hc
        obtain ⟨rfl, rfl⟩ := List.cons.inj hu
        obtain ⟨g1, g2, g3⟩ := drop_at h3
        have ih := (rStrip_l s hs n u (i + 2) x3 (by simp at hn; omega) g3 (by omega) (by omega)).1
        refine Ev.step (f := fun k => scrimref07_Strip.l0 k s x3 ((i + 2 : Nat) : Int)) (fun k => ?_) (ih.eq (by rw [scn_shut]))
        rw [scrimref07_Strip.l1, if_pos (by omega), rHas 42 47 h hs (by omega), Option.bind_some, if_pos (decide_eq_true hc), w64t i (by omega)]
      · have ih := (rStrip_l s hs n t (i + 1) x3 (by omega) h3 (by omega) (by omega)).2
        refine Ev.step (f := fun k => scrimref07_Strip.l1 k s x3 ((i + 1 : Nat) : Int)) (fun k => ?_) (ih.eq (by rw [scn_in hc]))
        rw [scrimref07_Strip.l1, if_pos (by omega), rHas 42 47 h hs (by omega), Option.bind_some, if_neg (by rw [decide_eq_true_eq]; exact hc), w64s i (by omega)]
theorem rStrip (s : ByteArray) (hs : s.size ≤ 1000) : Ev (fun k => scrimref07_Strip.f k s) (stripV s) := by
  refine Ev.eq (rStrip_l s hs _ _ 0 [] (Nat.le_refl _) rfl (by simp) (by omega)).1 ?_
  rw [List.nil_append, str_num]
  exact ba_ext (by rw [stripV_data, ba_data]; rfl)
end Go.Proofs.YtdifaomkaekglaaDoor.Pure
