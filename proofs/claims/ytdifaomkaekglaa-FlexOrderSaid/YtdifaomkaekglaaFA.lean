/- Contracts of functions of the given program and of Go's library, proved by walking their text, and plain lemmas (part A); no condition beside those that each theorem states. -/
import Derived.Sort.LotA
set_option linter.unusedVariables false
set_option linter.unusedSimpArgs false
/- The stable sort, plain Lean: what slices.SortStableFunc's parts keep. No model here. -/
namespace Go.Proofs.Stable
open Go.Sort

/-- x stands ahead of y: by its key, and by itself where the keys are the same. -/
def R (k : Int → Int) (x y : Int) : Prop := k x < k y ∨ (k x = k y ∧ x < y)
theorem R.trans {k : Int → Int} {x y z : Int} (h : R k x y) (g : R k y z) : R k x z := by
  unfold R at *; omega
theorem R.of_lt {k : Int → Int} {x y : Int} (h : x < y) (g : ¬ k y < k x) : R k x y := by unfold R; omega
theorem R.of_key {k : Int → Int} {x y : Int} (h : k x < k y) : R k x y := Or.inl h

def Srt (k : Int → Int) (a b : Nat) (d : Array Int) : Prop := ∀ i j, a ≤ i → i < j → j < b → R k d[i]! d[j]!
def Apart (a m b : Nat) (d : Array Int) : Prop := ∀ i j, a ≤ i → i < m → m ≤ j → j < b → d[i]! < d[j]!
def Cross (k : Int → Int) (a m b : Nat) (d : Array Int) : Prop := ∀ i j, a ≤ i → i < m → m ≤ j → j < b → R k d[i]! d[j]!

theorem Srt.one {k : Int → Int} {a b : Nat} {d : Array Int} (h : b ≤ a + 1) : Srt k a b d := fun i j h1 h2 h3 => by omega
theorem Srt.sub {k : Int → Int} {a b a' b' : Nat} {d : Array Int} (h : Srt k a b d) (ha : a ≤ a') (hb : b' ≤ b) : Srt k a' b' d := fun i j h1 h2 h3 => h i j (by omega) h2 (by omega)
theorem Srt.glue {k : Int → Int} {a m b : Nat} {d : Array Int} (h1 : Srt k a m d) (h2 : Srt k m b d) (h3 : Cross k a m b d) : Srt k a b d := by
  intro i j hi hij hj
  by_cases c : j < m
  · exact h1 i j hi hij c
  · by_cases e : i < m
    · exact h3 i j hi e (by omega) hj
    · exact h2 i j (by omega) hij hj
theorem Srt.same {k : Int → Int} {a b : Nat} {d d' : Array Int} (h : Srt k a b d) (e : ∀ i, a ≤ i → i < b → d'[i]! = d[i]!) : Srt k a b d' := fun i j h1 h2 h3 => by
  rw [e i h1 (by omega), e j (by omega) h3]; exact h i j h1 h2 h3

theorem mem_of {a b : Nat} {d d' : Array Int} (h : PermIn a b d d') (hb : b ≤ d.size) (i : Nat) (hi : a ≤ i) (hj : i < b) : ∃ j, a ≤ j ∧ j < b ∧ d'[i]! = d[j]! :=
  permIn_all d d' a b (fun x => ∃ j, a ≤ j ∧ j < b ∧ x = d[j]!) hb h (fun i h1 h2 => ⟨i, h1, h2, rfl⟩) i hi hj
theorem size_of {a b : Nat} {d d' : Array Int} (h : PermIn a b d d') : d'.size = d.size := h.1
theorem out_of {a b : Nat} {d d' : Array Int} (h : PermIn a b d d') (i : Nat) (hi : i < a ∨ b ≤ i) : d'[i]! = d[i]! := h.2.1 i hi

/-- Two-sided facts outlive a permutation that stays on one side. -/
theorem two_sided {p : Int → Int → Prop} {lo s hi a b : Nat} {d d' : Array Int} (h : ∀ i j, lo ≤ i → i < s → s ≤ j → j < hi → p d[i]! d[j]!) (g : PermIn a b d d') (hb : b ≤ d.size)
    (hs : (lo ≤ a ∧ b ≤ s) ∨ (s ≤ a ∧ b ≤ hi)) : ∀ i j, lo ≤ i → i < s → s ≤ j → j < hi → p d'[i]! d'[j]! := by
  intro i j h1 h2 h3 h4
  rcases hs with ⟨hl, hs⟩ | ⟨hs, hh⟩
  · rw [out_of g j (by omega)]
    by_cases c : a ≤ i ∧ i < b
    · obtain ⟨q, q1, q2, e⟩ := mem_of g hb i c.1 c.2
      rw [e]; exact h q j (by omega) (by omega) h3 h4
    · rw [out_of g i (by omega)]; exact h i j h1 h2 h3 h4
  · rw [out_of g i (by omega)]
    by_cases c : a ≤ j ∧ j < b
    · obtain ⟨q, q1, q2, e⟩ := mem_of g hb j c.1 c.2
      rw [e]; exact h i q h1 h2 (by omega) (by omega)
    · rw [out_of g j (by omega)]; exact h i j h1 h2 h3 h4
theorem Apart.perm {lo s hi a b : Nat} {d d' : Array Int} (h : Apart lo s hi d) (g : PermIn a b d d') (hb : b ≤ d.size) (hs : (lo ≤ a ∧ b ≤ s) ∨ (s ≤ a ∧ b ≤ hi)) : Apart lo s hi d' :=
  two_sided (p := fun x y => x < y) h g hb hs
theorem Cross.perm {k : Int → Int} {lo s hi a b : Nat} {d d' : Array Int} (h : Cross k lo s hi d) (g : PermIn a b d d') (hb : b ≤ d.size) (hs : (lo ≤ a ∧ b ≤ s) ∨ (s ≤ a ∧ b ≤ hi)) : Cross k lo s hi d' :=
  two_sided (p := R k) h g hb hs
theorem pmono {a b a' b' : Nat} {d d' : Array Int} (h : PermIn a b d d') (ha : a' ≤ a) (hb : b ≤ b') (hs : b' ≤ d.size) : PermIn a' b' d d' := permIn_mono d d' a b a' b' ha hb hs h
theorem ptrans {a b : Nat} {d d' d'' : Array Int} (h : PermIn a b d d') (g : PermIn a b d' d'') : PermIn a b d d'' := permIn_trans d d' d'' a b h g

/-! ### Ranges exchanged, and a rotation -/
/-- [x, x+n) and [y, y+n) have changed places. -/
def Swd (x y n : Nat) (d d' : Array Int) : Prop := ∀ k, d'[k]! = if x ≤ k ∧ k < x + n then d[k + (y - x)]! else if y ≤ k ∧ k < y + n then d[k - (y - x)]! else d[k]!
theorem Swd.zero (x y : Nat) (d : Array Int) : Swd x y 0 d d := fun k => by rw [if_neg (by omega), if_neg (by omega)]
theorem Swd.step {x y i : Nat} {d dk : Array Int} (h : Swd x y i d dk) (hxy : x + i < y) (hs : y + i < dk.size) : Swd x y (i + 1) d (swp dk (x + i) (y + i)) := by
  intro k
  rw [swp_get dk (by omega) hs]
  by_cases e1 : k = y + i
  · subst e1
    rw [if_pos rfl, if_neg (by omega), if_pos (by omega), h (x + i), if_neg (by omega), if_neg (by omega)]
    congr 1; omega
  · rw [if_neg e1]
    by_cases e2 : k = x + i
    · subst e2
      rw [if_pos rfl, if_pos (by omega), h (y + i), if_neg (by omega), if_neg (by omega)]
      congr 1; omega
    · rw [if_neg e2, h k]
      by_cases c : x ≤ k ∧ k < x + i
      · rw [if_pos c, if_pos (by omega)]
      · rw [if_neg c, if_neg (show ¬ (x ≤ k ∧ k < x + (i + 1)) by omega)]
        by_cases c2 : y ≤ k ∧ k < y + i
        · rw [if_pos c2, if_pos (by omega)]
        · rw [if_neg c2, if_neg (by omega)]

/-- What is left to do of a rotation about m: i on the left, j on the right; T is how it is to end. -/
structure RotI (a m b i j : Nat) (T : Nat → Int) (d : Array Int) : Prop where
  l : ∀ k, m ≤ k + i → k + i < m + j → d[k + i]! = T k
  r : ∀ k, m + j ≤ k + i → k < m + j → d[k - j]! = T k
  lo : ∀ k, a ≤ k → k + i < m → d[k]! = T k
  hi : ∀ k, m + j ≤ k → k < b → d[k]! = T k

theorem RotI.left {a m b i j : Nat} {T : Nat → Int} {d d' : Array Int} (h : RotI a m b i j T d) (hij : j < i) (hi : a + i ≤ m) (hj : m + j ≤ b) (s : Swd (m - i) m j d d') : RotI a m b (i - j) j T d' := by
  constructor
  · intro k h1 h2
    rw [s, if_neg (by omega), if_pos (by omega)]
    have := h.r k (by omega) (by omega)
    rw [← this]; congr 1; omega
  · intro k h1 h2
    rw [s, if_neg (by omega), if_neg (by omega)]
    exact h.r k (by omega) (by omega)
  · intro k h1 h2
    by_cases c : k + i < m
    · rw [s, if_neg (by omega), if_neg (by omega)]; exact h.lo k h1 c
    · rw [s, if_pos (by omega), ← h.l k (by omega) (by omega)]; congr 1; omega
  · intro k h1 h2
    rw [s, if_neg (by omega), if_neg (by omega)]; exact h.hi k h1 h2
theorem RotI.right {a m b i j : Nat} {T : Nat → Int} {d d' : Array Int} (h : RotI a m b i j T d) (hij : i < j) (hi : a + i ≤ m) (hj : m + j ≤ b) (s : Swd (m - i) (m + j - i) i d d') : RotI a m b i (j - i) T d' := by
  constructor
  · intro k h1 h2
    rw [s, if_neg (by omega), if_neg (by omega)]
    exact h.l k (by omega) (by omega)
  · intro k h1 h2
    rw [s, if_pos (by omega), ← h.l k (by omega) (by omega)]; congr 1; omega
  · intro k h1 h2
    rw [s, if_neg (by omega), if_neg (by omega)]; exact h.lo k h1 h2
  · intro k h1 h2
    by_cases c : m + j ≤ k
    · rw [s, if_neg (by omega), if_neg (by omega)]; exact h.hi k c h2
    · rw [s, if_neg (by omega), if_pos (by omega), ← h.r k (by omega) (by omega)]; congr 1; omega
theorem RotI.last {a m b i : Nat} {T : Nat → Int} {d d' : Array Int} (h : RotI a m b i i T d) (hi : a + i ≤ m) (hj : m + i ≤ b) (s : Swd (m - i) m i d d') : ∀ k, a ≤ k → k < b → d'[k]! = T k := by
  intro k h1 h2
  by_cases c1 : k + i < m
  · rw [s, if_neg (by omega), if_neg (by omega)]; exact h.lo k h1 c1
  · by_cases c2 : k < m
    · rw [s, if_pos (by omega), ← h.l k (by omega) (by omega)]; congr 1; omega
    · by_cases c3 : k < m + i
      · rw [s, if_neg (by omega), if_pos (by omega), ← h.r k (by omega) (by omega)]; congr 1; omega
      · rw [s, if_neg (by omega), if_neg (by omega)]; exact h.hi k (by omega) h2

/-- [s, m) and [m, e) have changed places. -/
def Rotd (s m e : Nat) (d d' : Array Int) : Prop := ∀ k, s ≤ k → k < e → d'[k]! = if k < s + (e - m) then d[k + (m - s)]! else d[k - (e - m)]!
def rotT (s m e : Nat) (d : Array Int) (k : Nat) : Int := if k < s + (e - m) then d[k + (m - s)]! else d[k - (e - m)]!
theorem RotI.start {s m e : Nat} (d : Array Int) (h1 : s ≤ m) (h2 : m ≤ e) : RotI s m e (m - s) (e - m) (rotT s m e d) d := by
  constructor
  · intro k a b; unfold rotT; rw [if_pos (by omega)]
  · intro k a b; unfold rotT; rw [if_neg (by omega)]
  · intro k a b; omega
  · intro k a b; omega
theorem Rotd.none {s m e : Nat} (d : Array Int) (h : s = m ∨ e = m) (h1 : s ≤ m) (h2 : m ≤ e) : Rotd s m e d d := by
  intro k a b
  by_cases c : k < s + (e - m)
  · rw [if_pos c]; congr 1; omega
  · rw [if_neg c]; congr 1; omega

/-! ### symMerge -/
/-- What a rotation at a split leaves: [a,s) L1, [s,mid) M1, [mid,e) L2, [e,b) M2. -/
structure Split (k : Int → Int) (a s mid e b : Nat) (d : Array Int) : Prop where
  l1 : Srt k a s d
  m1 : Srt k s mid d
  l2 : Srt k mid e d
  m2 : Srt k e b d
  ap1 : Apart a s mid d
  ap2 : Apart mid e b d
  cross : Cross k a mid b d

theorem split_of {k : Int → Int} {a s m e b : Nat} {d d' : Array Int} (has : a ≤ s) (hsm : s ≤ m) (hme : m ≤ e) (heb : e ≤ b) (hl : Srt k a m d) (hm : Srt k m b d) (hap : Apart a m b d)
    (h1 : s = a ∨ e = b ∨ R k d[s - 1]! d[e]!) (h2 : s = m ∨ e = m ∨ R k d[e - 1]! d[s]!)
    (rot : Rotd s m e d d') (out : ∀ i, i < s ∨ e ≤ i → d'[i]! = d[i]!) : Split k a s (s + (e - m)) e b d' := by
  have q1 : ∀ i, i < s → d'[i]! = d[i]! := fun i h => out i (Or.inl h)
  have q2 : ∀ i, s ≤ i → i < s + (e - m) → d'[i]! = d[i + (m - s)]! := fun i h g => by rw [rot i h (by omega), if_pos g]
  have q3 : ∀ i, s + (e - m) ≤ i → i < e → d'[i]! = d[i - (e - m)]! := fun i h g => by rw [rot i (by omega) g, if_neg (by omega)]
  have q4 : ∀ i, e ≤ i → d'[i]! = d[i]! := fun i h => out i (Or.inr h)
  -- L1 ahead of M2, M1 ahead of L2
  have x1 : ∀ i j, a ≤ i → i < s → e ≤ j → j < b → R k d[i]! d[j]! := by
    intro i j i1 i2 j1 j2
    rcases h1 with h | h | h
    · omega
    · omega
    · have y1 : i = s - 1 ∨ R k d[i]! d[s - 1]! := by
        by_cases c : i = s - 1
        · exact Or.inl c
        · exact Or.inr (hl i (s - 1) i1 (by omega) (by omega))
      have y2 : j = e ∨ R k d[e]! d[j]! := by
        by_cases c : j = e
        · exact Or.inl c
        · exact Or.inr (hm e j hme (by omega) j2)
      rcases y1 with rfl | y1 <;> rcases y2 with rfl | y2
      · exact h
      · exact h.trans y2
      · exact y1.trans h
      · exact (y1.trans h).trans y2
  have x2 : ∀ i j, m ≤ i → i < e → s ≤ j → j < m → R k d[i]! d[j]! := by
    intro i j i1 i2 j1 j2
    rcases h2 with h | h | h
    · omega
    · omega
    · have y1 : i = e - 1 ∨ R k d[i]! d[e - 1]! := by
        by_cases c : i = e - 1
        · exact Or.inl c
        · exact Or.inr (hm i (e - 1) i1 (by omega) (by omega))
      have y2 : j = s ∨ R k d[s]! d[j]! := by
        by_cases c : j = s
        · exact Or.inl c
        · exact Or.inr (hl s j has (by omega) j2)
      rcases y1 with rfl | y1 <;> rcases y2 with rfl | y2
      · exact h
      · exact h.trans y2
      · exact y1.trans h
      · exact (y1.trans h).trans y2
  refine ⟨?_, ?_, ?_, ?_, ?_, ?_, ?_⟩
  · intro i j i1 ij j2
    rw [q1 i (by omega), q1 j j2]; exact hl i j i1 ij (by omega)
  · intro i j i1 ij j2
    rw [q2 i i1 (by omega), q2 j (by omega) j2]; exact hm _ _ (by omega) (by omega) (by omega)
  · intro i j i1 ij j2
    rw [q3 i i1 (by omega), q3 j (by omega) j2]; exact hl _ _ (by omega) (by omega) (by omega)
  · intro i j i1 ij j2
    rw [q4 i i1, q4 j (by omega)]; exact hm _ _ (by omega) (by omega) (by omega)
  · intro i j i1 i2 j1 j2
    rw [q1 i i2, q2 j j1 j2]; exact hap _ _ (by omega) (by omega) (by omega) (by omega)
  · intro i j i1 i2 j1 j2
    rw [q3 i i1 i2, q4 j j1]; exact hap _ _ (by omega) (by omega) (by omega) (by omega)
  · intro i j i1 i2 j1 j2
    by_cases ci : i < s
    · rw [q1 i ci]
      by_cases cj : j < e
      · rw [q3 j j1 cj]; exact hl _ _ i1 (by omega) (by omega)
      · rw [q4 j (by omega)]; exact x1 _ _ i1 ci (by omega) j2
    · rw [q2 i (by omega) i2]
      by_cases cj : j < e
      · rw [q3 j j1 cj]; exact x2 _ _ (by omega) (by omega) (by omega) (by omega)
      · rw [q4 j (by omega)]; exact hm _ _ (by omega) (by omega) j2

/-- The two halves are merged, each by itself. -/
theorem Split.done {k : Int → Int} {a s mid e b : Nat} {d d1 d2 : Array Int} (h : Split k a s mid e b d) (has : a ≤ s) (hsm : s ≤ mid) (hme : mid ≤ e) (heb : e ≤ b) (hb : b ≤ d.size)
    (p1 : PermIn a mid d d1) (s1 : Srt k a mid d1) (p2 : PermIn mid b d1 d2) (s2 : Srt k mid b d2) : PermIn a b d d2 ∧ Srt k a b d2 := by
  have e1 := size_of p1
  refine ⟨ptrans (pmono p1 (Nat.le_refl _) (by omega) hb) (pmono p2 (by omega) (Nat.le_refl _) (by omega)), ?_⟩
  refine Srt.glue (m := mid) ?_ s2 ?_
  · exact s1.same fun i h1 h2 => out_of p2 i (Or.inl h2)
  · exact (h.cross.perm p1 (by omega) (Or.inl ⟨Nat.le_refl _, Nat.le_refl _⟩)).perm p2 (by omega) (Or.inr ⟨Nat.le_refl _, Nat.le_refl _⟩)

/-- A single one on the left: it is put behind the i - m that are less. -/
theorem merge_left {k : Int → Int} {a m b i : Nat} {d d' : Array Int} (hm1 : m = a + 1) (hi : m ≤ i) (hib : i ≤ b) (hm : Srt k m b d) (hap : Apart a m b d)
    (h1 : i = m ∨ k d[i - 1]! < k d[a]!) (h2 : i = b ∨ ¬ k d[i]! < k d[a]!) (rot : Rotd a m i d d') (out : ∀ q, q < a ∨ i ≤ q → d'[q]! = d[q]!) : Srt k a b d' := by
  have sp := split_of (k := k) (a := a) (s := a) (m := m) (e := i) (b := b) (d := d) (d' := d') (Nat.le_refl _) (by omega) hi hib (Srt.one (by omega)) hm hap (Or.inl rfl) (by
    rcases h1 with h1 | h1
    · exact Or.inr (Or.inl h1)
    · exact Or.inr (Or.inr (R.of_key h1))) rot out
  refine Srt.glue (m := a + (i - m)) sp.m1 (Srt.glue (m := i) sp.l2 sp.m2 ?_) sp.cross
  intro p q p1 p2 q1 q2
  have ep : p = i - 1 := by omega
  have e1 : d'[p]! = d[a]! := by rw [rot p (by omega) p2, if_neg (by omega)]; congr 1; omega
  rw [e1, out q (Or.inr q1)]
  have y : R k d[a]! d[i]! := by
    rcases h2 with h2 | h2
    · omega
    · exact R.of_lt (hap a i (by omega) (by omega) (by omega) (by omega)) h2
  by_cases c : q = i
  · subst c; exact y
  · exact y.trans (hm i q (by omega) (by omega) q2)
/-- A single one on the right. -/
theorem merge_right {k : Int → Int} {a m b i : Nat} {d d' : Array Int} (hm1 : b = m + 1) (hi : a ≤ i) (him : i ≤ m) (hl : Srt k a m d) (hap : Apart a m b d)
    (h1 : i = a ∨ ¬ k d[m]! < k d[i - 1]!) (h2 : i = m ∨ k d[m]! < k d[i]!) (rot : Rotd i m b d d') (out : ∀ q, q < i ∨ b ≤ q → d'[q]! = d[q]!) : Srt k a b d' := by
  have sp := split_of (k := k) (a := a) (s := i) (m := m) (e := b) (b := b) (d := d) (d' := d') hi him (by omega) (Nat.le_refl _) hl (Srt.one (by omega)) hap (Or.inr (Or.inl rfl)) (by
    rcases h2 with h2 | h2
    · exact Or.inl h2
    · exact Or.inr (Or.inr (by rw [show b - 1 = m by omega]; exact R.of_key h2))) rot out
  refine Srt.glue (m := i + (b - m)) (Srt.glue (m := i) sp.l1 sp.m1 ?_) (sp.l2) sp.cross
  intro p q p1 p2 q1 q2
  have eq : q = i := by omega
  have e1 : d'[q]! = d[m]! := by rw [rot q (by omega) (by omega), if_pos (by omega)]; congr 1; omega
  rw [e1, out p (Or.inl p2)]
  have y : R k d[i - 1]! d[m]! := by
    rcases h1 with h1 | h1
    · omega
    · exact R.of_lt (hap (i - 1) m (by omega) (by omega) (by omega) (by omega)) h1
  by_cases c : p = i - 1
  · subst c; exact y
  · exact (hl p (i - 1) p1 (by omega) (by omega)).trans y

/-! ### insertionSort -/
/-- [a, i] is in order BUT FOR THE PLACE j, whose element is the last of these by itself, and stands ahead of what lies to its right. -/
structure InsI (k : Int → Int) (a j i : Nat) (d : Array Int) : Prop where
  rest : ∀ p q, a ≤ p → p < q → q ≤ i → p ≠ j → q ≠ j → R k d[p]! d[q]!
  right : ∀ q, j < q → q ≤ i → R k d[j]! d[q]!
  ids : ∀ p, a ≤ p → p ≤ i → p ≠ j → d[p]! < d[j]!
theorem InsI.start {k : Int → Int} {a i : Nat} {d : Array Int} (h : Srt k a i d) (g : Apart a i (i + 1) d) : InsI k a i i d :=
  ⟨fun p q h1 h2 h3 h4 h5 => h p q h1 h2 (by omega), fun q h1 h2 => by omega, fun p h1 h2 h3 => g p i h1 (by omega) (by omega) (by omega)⟩
theorem InsI.stop {k : Int → Int} {a j i : Nat} {d : Array Int} (h : InsI k a j i d) (haj : a ≤ j) (hji : j ≤ i) (hs : j ≤ a ∨ ¬ k d[j]! < k d[j - 1]!) : Srt k a (i + 1) d := by
  intro p q hap hpq hqi
  by_cases hq : q = j
  · subst hq
    rcases hs with hs | hs
    · omega
    · have y : R k d[q - 1]! d[q]! := R.of_lt (h.ids (q - 1) (by omega) (by omega) (by omega)) hs
      by_cases hp : p = q - 1
      · subst hp; exact y
      · exact (h.rest p (q - 1) hap (by omega) (by omega) (by omega) (by omega)).trans y
  · by_cases hp : p = j
    · subst hp; exact h.right q hpq (by omega)
    · exact h.rest p q hap hpq (by omega) hp hq
theorem InsI.step {k : Int → Int} {a j i : Nat} {d : Array Int} (h : InsI k a (j + 1) i d) (hl : k d[j + 1]! < k d[j]!) (haj : a ≤ j) (hji : j + 1 ≤ i) (hsz : i < d.size) : InsI k a j i (swp d (j + 1) j) := by
  have g := swp_get d (show j + 1 < d.size by omega) (show j < d.size by omega)
  constructor
  · intro p q hap hpq hqi hp hq
    rw [g, g, if_neg hp, if_neg hq]
    by_cases c1 : p = j + 1
    · subst c1
      rw [if_pos rfl, if_neg (by omega)]
      exact h.rest j q haj (by omega) hqi (by omega) (by omega)
    · rw [if_neg c1]
      by_cases c2 : q = j + 1
      · rw [if_pos c2]
        exact h.rest p j hap (by omega) (by omega) (by omega) (by omega)
      · rw [if_neg c2]; exact h.rest p q hap hpq hqi c1 c2
  · intro q h1 h2
    rw [g, g, if_pos rfl, if_neg (by omega)]
    by_cases c : q = j + 1
    · rw [if_pos c]; exact R.of_key hl
    · rw [if_neg c]; exact h.right q (by omega) h2
  · intro p h1 h2 h3
    rw [g, g, if_pos rfl, if_neg h3]
    by_cases c : p = j + 1
    · rw [if_pos c]; exact h.ids j haj (by omega) (by omega)
    · rw [if_neg c]; exact h.ids p h1 h2 c

/-! ### The blocks -/
def Bd (K s : Nat) : Prop := ∃ t, s = t * K
theorem Bd.zero (K : Nat) : Bd K 0 := ⟨0, by simp⟩
theorem Bd.next {K s : Nat} (h : Bd K s) : Bd K (s + K) := by obtain ⟨t, rfl⟩ := h; exact ⟨t + 1, by rw [Nat.add_mul]; omega⟩
theorem Bd.half {K s : Nat} (h : Bd (2 * K) s) : Bd K s := by obtain ⟨t, rfl⟩ := h; exact ⟨t * 2, by rw [Nat.mul_assoc]⟩
theorem Bd.gap {K s u : Nat} (h : Bd K s) (g : Bd K u) (hs : s < u) : s + K ≤ u := by
  obtain ⟨t, rfl⟩ := h; obtain ⟨v, rfl⟩ := g
  have : t < v := Nat.lt_of_mul_lt_mul_right hs
  have h2 : (t + 1) * K ≤ v * K := Nat.mul_le_mul_right K this
  rw [Nat.add_mul] at h2; omega

def Inc (a b : Nat) (d : Array Int) : Prop := ∀ i j, a ≤ i → i < j → j < b → d[i]! < d[j]!
structure First (k : Int → Int) (K n a : Nat) (d : Array Int) : Prop where
  bd : Bd K a
  done : ∀ s, Bd K s → s < a → Srt k s (s + K) d
  sep : ∀ s, Bd K s ∨ a ≤ s → Apart 0 s n d
theorem First.start {k : Int → Int} {K n : Nat} {d : Array Int} (h : Inc 0 n d) : First k K n 0 d :=
  ⟨Bd.zero K, fun s _ h => by omega, fun s _ i j h1 h2 h3 h4 => h i j h1 (by omega) h4⟩
theorem First.inc {k : Int → Int} {K n a b : Nat} {d : Array Int} (h : First k K n a d) (hb : b ≤ n) : Inc a b d := fun i j h1 h2 h3 => h.sep j (Or.inr (by omega)) i j (by omega) h2 (Nat.le_refl _) (by omega)
theorem First.step {k : Int → Int} {K n a : Nat} {d d' : Array Int} (h : First k K n a d) (hn : a + K ≤ n) (hs : n ≤ d.size) (p : PermIn a (a + K) d d') (s : Srt k a (a + K) d') : First k K n (a + K) d' := by
  refine ⟨h.bd.next, ?_, ?_⟩
  · intro q hq hqa
    by_cases c : q < a
    · have := hq.gap h.bd c
      exact (h.done q hq c).same fun i h1 h2 => out_of p i (Or.inl (by omega))
    · have e : q = a := by
        by_cases c2 : a < q
        · have := h.bd.gap hq c2; omega
        · omega
      subst e; exact s
  · intro q hq
    have y : q ≤ a ∨ a + K ≤ q := by
      rcases hq with hq | hq
      · by_cases c : a < q
        · exact Or.inr (h.bd.gap hq c)
        · exact Or.inl (by omega)
      · exact Or.inr hq
    have z : Apart 0 q n d := by
      rcases hq with hq | hq
      · exact h.sep q (Or.inl hq)
      · exact h.sep q (Or.inr (by omega))
    rcases y with y | y
    · exact z.perm p (by omega) (Or.inr ⟨y, hn⟩)
    · exact z.perm p (by omega) (Or.inl ⟨by omega, y⟩)

def Full (k : Int → Int) (K n : Nat) (d : Array Int) : Prop := ∀ s, Bd K s → s < n → Srt k s (min (s + K) n) d ∧ Apart 0 s n d
theorem First.last {k : Int → Int} {K n a : Nat} {d d' : Array Int} (h : First k K n a d) (hn : n < a + K) (ha : a ≤ n) (hs : n ≤ d.size) (p : PermIn a n d d') (s : Srt k a n d') : Full k K n d' := by
  intro q hq hqn
  have z := h.sep q (Or.inl hq)
  by_cases c : q < a
  · have := hq.gap h.bd c
    refine ⟨?_, z.perm p hs (Or.inr ⟨by omega, Nat.le_refl _⟩)⟩
    refine ((h.done q hq c).same fun i h1 h2 => out_of p i (Or.inl (by omega))).sub (Nat.le_refl _) (by omega)
  · have e : q = a := by
      by_cases c2 : a < q
      · have := h.bd.gap hq c2; omega
      · omega
    subst e
    exact ⟨s.sub (Nat.le_refl _) (by omega), z.perm p hs (Or.inr ⟨by omega, Nat.le_refl _⟩)⟩
theorem Full.sorted {k : Int → Int} {K n : Nat} {d : Array Int} (h : Full k K n d) (hn : n ≤ K) : Srt k 0 n d := by
  by_cases c : 0 < n
  · exact (h 0 (Bd.zero K) c).1.sub (Nat.le_refl _) (by omega)
  · exact Srt.one (by omega)

structure Pass (k : Int → Int) (K n a : Nat) (d : Array Int) : Prop where
  bd : Bd (2 * K) a
  done : ∀ s, Bd (2 * K) s → s < a → Srt k s (s + 2 * K) d
  rest : ∀ s, Bd K s → a ≤ s → s < n → Srt k s (min (s + K) n) d ∧ Apart 0 s n d
  sep : ∀ s, Bd (2 * K) s → s < n → Apart 0 s n d
theorem Pass.start {k : Int → Int} {K n : Nat} {d : Array Int} (h : Full k K n d) : Pass k K n 0 d :=
  ⟨Bd.zero _, fun s _ h => by omega, fun s h1 _ h2 => h s h1 h2, fun s h1 h2 => (h s h1.half h2).2⟩
/-- What a merge at a asks. -/
theorem Pass.ready {k : Int → Int} {K n a b : Nat} {d : Array Int} (h : Pass k K n a d) (hb : b ≤ n) (h1 : a + K < b) (h2 : b ≤ a + 2 * K) : Srt k a (a + K) d ∧ Srt k (a + K) b d ∧ Apart a (a + K) b d := by
  have r1 := h.rest a h.bd.half (Nat.le_refl _) (by omega)
  have r2 := h.rest (a + K) h.bd.half.next (by omega) (by omega)
  exact ⟨r1.1.sub (Nat.le_refl _) (by omega), r2.1.sub (Nat.le_refl _) (by omega), fun i j i1 i2 j1 j2 => r2.2 i j (by omega) i2 j1 (by omega)⟩
theorem Pass.step {k : Int → Int} {K n a : Nat} {d d' : Array Int} (h : Pass k K n a d) (hK : 0 < K) (hn : a + 2 * K ≤ n) (hs : n ≤ d.size) (p : PermIn a (a + 2 * K) d d') (s : Srt k a (a + 2 * K) d') : Pass k K n (a + 2 * K) d' := by
  refine ⟨h.bd.next, ?_, ?_, ?_⟩
  · intro q hq hqa
    by_cases c : q < a
    · have := hq.gap h.bd c
      exact (h.done q hq c).same fun i h1 h2 => out_of p i (Or.inl (by omega))
    · have e : q = a := by
        by_cases c2 : a < q
        · have := h.bd.gap hq c2; omega
        · omega
      subst e; exact s
  · intro q hq h1 h2
    have r := h.rest q hq (by omega) h2
    exact ⟨r.1.same fun i i1 i2 => out_of p i (Or.inr (by omega)), r.2.perm p (by omega) (Or.inl ⟨by omega, h1⟩)⟩
  · intro q hq hqn
    have z := h.sep q hq hqn
    by_cases c : a < q
    · exact z.perm p (by omega) (Or.inl ⟨by omega, h.bd.gap hq c⟩)
    · exact z.perm p (by omega) (Or.inr ⟨by omega, hn⟩)
theorem Pass.tail {k : Int → Int} {K n a : Nat} {d d' : Array Int} (h : Pass k K n a d) (ha : a ≤ n) (hn : n < a + 2 * K) (hs : n ≤ d.size) (p : PermIn a n d d') (s : Srt k a n d') : Full k (2 * K) n d' := by
  intro q hq hqn
  have z := h.sep q hq hqn
  by_cases c : q < a
  · have := hq.gap h.bd c
    refine ⟨?_, z.perm p hs (Or.inr ⟨by omega, Nat.le_refl _⟩)⟩
    exact ((h.done q hq c).same fun i h1 h2 => out_of p i (Or.inl (by omega))).sub (Nat.le_refl _) (by omega)
  · have e : q = a := by
      by_cases c2 : a < q
      · have := h.bd.gap hq c2; omega
      · omega
    subst e
    exact ⟨s.sub (Nat.le_refl _) (by omega), z.perm p hs (Or.inr ⟨by omega, Nat.le_refl _⟩)⟩
theorem Pass.short {k : Int → Int} {K n a : Nat} {d : Array Int} (h : Pass k K n a d) (ha : a ≤ n) (hn : n ≤ a + K) : Srt k a n d := by
  by_cases c : a < n
  · exact (h.rest a h.bd.half (Nat.le_refl _) c).1.sub (Nat.le_refl _) (by omega)
  · exact Srt.one (by omega)
end Go.Proofs.Stable

/- The order of flex.Order, plain Lean: the one list of places that is in order. -/
namespace Go.Proofs.Stable
open Go.Sort
def keyAt (l : List Int) (x : Int) : Int := l.getD x.toNat 0
instance (k : Int → Int) (x y : Int) : Decidable (R k x y) := by unfold R; infer_instance
def insR (k : Int → Int) (x : Int) : List Int → List Int
  | [] => [x]
  | y :: ys => if R k x y then x :: y :: ys else y :: insR k x ys
def sortR (k : Int → Int) : List Int → List Int
  | [] => []
  | x :: xs => insR k x (sortR k xs)
def places (n : Nat) : List Int := (List.range n).map Int.ofNat
def orderV (l : List Int) : List Int := sortR (keyAt l) (places l.length)
theorem insR_perm (k : Int → Int) (x : Int) : ∀ ys, (insR k x ys).Perm (x :: ys)
  | [] => List.Perm.refl _
  | y :: ys => by
    unfold insR
    split
    · exact List.Perm.refl _
    · exact (List.Perm.cons y (insR_perm k x ys)).trans (List.Perm.swap x y ys)
theorem sortR_perm (k : Int → Int) : ∀ xs, (sortR k xs).Perm xs
  | [] => List.Perm.refl _
  | x :: xs => (insR_perm k x _).trans (List.Perm.cons x (sortR_perm k xs))
theorem R.total {k : Int → Int} {x y : Int} (h : x ≠ y) (g : ¬ R k x y) : R k y x := by unfold R at *; omega
theorem R.asymm {k : Int → Int} {x y : Int} (h : R k x y) (g : R k y x) : False := by unfold R at *; omega
theorem insR_sorted (k : Int → Int) (x : Int) : ∀ ys, (∀ y ∈ ys, x ≠ y) → ys.Pairwise (R k) → (insR k x ys).Pairwise (R k)
  | [], _, _ => List.pairwise_singleton _ _
  | y :: ys, hn, h => by
    unfold insR
    split
    · rename_i hx
      refine List.pairwise_cons.2 ⟨fun z hz => ?_, h⟩
      rcases List.mem_cons.1 hz with rfl | hz
      · exact hx
      · exact hx.trans ((List.pairwise_cons.1 h).1 z hz)
    · rename_i hx
      refine List.pairwise_cons.2 ⟨fun z hz => ?_, insR_sorted k x ys (fun z hz => hn z (List.mem_cons_of_mem _ hz)) (List.pairwise_cons.1 h).2⟩
      rcases List.mem_cons.1 ((insR_perm k x ys).mem_iff.1 hz) with rfl | hz
      · exact R.total (hn y List.mem_cons_self) hx
      · exact (List.pairwise_cons.1 h).1 z hz
theorem sortR_sorted (k : Int → Int) : ∀ xs, xs.Nodup → (sortR k xs).Pairwise (R k)
  | [], _ => List.Pairwise.nil
  | x :: xs, h => insR_sorted k x _ (fun y hy e => (List.nodup_cons.1 h).1 (e ▸ (sortR_perm k xs).mem_iff.1 hy)) (sortR_sorted k xs (List.nodup_cons.1 h).2)
theorem sorted_unique (k : Int → Int) : ∀ xs ys : List Int, xs.Perm ys → xs.Pairwise (R k) → ys.Pairwise (R k) → xs = ys
  | [], ys, hp, _, _ => (List.Perm.nil_eq hp)
  | x :: xs, [], hp, _, _ => absurd hp.length_eq (by simp)
  | x :: xs, y :: ys, hp, h1, h2 => by
    have e : x = y := by
      have m1 : x ∈ y :: ys := hp.mem_iff.1 List.mem_cons_self
      have m2 : y ∈ x :: xs := hp.mem_iff.2 List.mem_cons_self
      rcases List.mem_cons.1 m1 with e | m1
      · exact e
      · rcases List.mem_cons.1 m2 with e | m2
        · exact e.symm
        · exact (R.asymm ((List.pairwise_cons.1 h1).1 y m2) ((List.pairwise_cons.1 h2).1 x m1)).elim
    subst e
    rw [sorted_unique k xs ys (List.Perm.cons_inv hp) (List.pairwise_cons.1 h1).2 (List.pairwise_cons.1 h2).2]
theorem places_nodup (n : Nat) : (places n).Nodup := by
  unfold places
  refine List.pairwise_map.2 (List.Pairwise.imp (fun h e => h ?_) List.nodup_range)
  exact Int.ofNat.inj e
theorem places_length (n : Nat) : (places n).length = n := by simp [places]
theorem mem_places {n : Nat} {x : Int} : x ∈ places n ↔ 0 ≤ x ∧ x < (n : Int) := by
  unfold places
  rw [List.mem_map]
  constructor
  · rintro ⟨a, ha, rfl⟩
    have := List.mem_range.1 ha
    simp only [Int.ofNat_eq_natCast]
    omega
  · rintro ⟨h0, h1⟩
    exact ⟨x.toNat, List.mem_range.2 (by omega), by simp only [Int.ofNat_eq_natCast]; omega⟩
theorem orderV_perm (l : List Int) : (orderV l).Perm (places l.length) := sortR_perm _ _
theorem orderV_sorted (l : List Int) : (orderV l).Pairwise (R (keyAt l)) := sortR_sorted _ _ (places_nodup _)
theorem orderV_of (l out : List Int) (hp : out.Perm (places l.length)) (hs : out.Pairwise (R (keyAt l))) : out = orderV l :=
  sorted_unique _ _ _ (hp.trans (orderV_perm l).symm) hs (orderV_sorted l)
theorem orderV_length (l : List Int) : (orderV l).length = l.length := by rw [(orderV_perm l).length_eq, places_length]
theorem order_of_sort (l : List Int) (d' : Array Int) (p : PermIn 0 l.length (places l.length).toArray d') (s : Srt (keyAt l) 0 l.length d') : d'.toList = orderV l := by
  have hs : d'.size = l.length := by rw [p.1]; simp [places]
  refine orderV_of l _ ?_ ?_
  · have h := p.2.2
    rw [Array.toList_extract, Array.toList_extract] at h
    rw [← hs] at h ⊢
    have e1 : (d'.toList.extract 0 d'.size) = d'.toList := by simp [List.extract, List.take_of_length_le]
    have e2 : ((places d'.size).toArray.toList.extract 0 d'.size) = places d'.size := by simp [List.extract, places_length, List.take_of_length_le]
    rw [e1, e2] at h
    exact h
  · refine List.pairwise_iff_getElem.2 fun i j hi hj hij => ?_
    have h := s i j (Nat.zero_le _) hij (by simpa [hs] using hj)
    rw [getElem!_pos d' i (by simpa using hi), getElem!_pos d' j (by simpa using hj)] at h
    simpa using h
theorem inc_places (n : Nat) : Inc 0 n (places n).toArray := by
  intro i j _ h1 h2
  rw [getElem!_pos _ i (by simp [places]; omega), getElem!_pos _ j (by simp [places]; omega)]
  simp [places]
  omega
end Go.Proofs.Stable
