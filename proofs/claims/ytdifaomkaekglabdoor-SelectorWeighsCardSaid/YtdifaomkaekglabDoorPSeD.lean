/- The plain half of the Selector laws, fourth part: own, Large, Weight, and how large what may be is. -/
import Derived.Test.YtdifaomkaekglabDoorPSeC
import Derived.Test.YtdifaomkaekglabDoorHS5
import Derived.Test.YtdifaomkaekglabDoorHS6
import Derived.Test.YtdifaomkaekglabDoorHS4
set_option linter.unusedVariables false
set_option linter.unusedSimpArgs false
namespace Go.Proofs.YtdifaomkaekglabDoor.Pure
open Go.RowKit Go.Proofs.YtdifaomkaekglabDoor.HS Go.Proofs.YtdifaomkaekglabDoorW.PrintWords Go.Proofs.YtdifaomkaekglabDoorW.PrintLast Go.Proofs.YtdifaomkaekglabDoorW.PrintMore Go.Proofs.Scn Go.Proofs.Tok
theorem awake : Ev (fun k => scrimlaw09_awake.f k) true := Ev.of (fun k => scrimlaw09_awake.mono k) (k := 60) (by kernel_rfl)
/-! ### own -/
def c50 (x : S44) : S50 := ⟨x.f0, x.f1, x.f2, x.f3, x.f4⟩
theorem rd44_at {l : List S44} {i : Nat} (h : i < l.length) : rd_T44 l (i : Int) = l[i] := by
  unfold rd_T44
  rw [Int.toNat_natCast, List.getD, List.getElem?_eq_getElem h]
  rfl
theorem rd50_at {l : List S50} {i : Nat} (h : i < l.length) : rd_T50 l (i : Int) = l[i] := by
  unfold rd_T50
  rw [Int.toNat_natCast, List.getD, List.getElem?_eq_getElem h]
  rfl
theorem w64b (i : Nat) (h : i < 4611686018427387904) : wrap64 ((i : Int) + 1) = ((i + 1 : Nat) : Int) := by rw [w64 (by omega) (by omega)]; omega
theorem rOwn_l (xs : List S44) (bs : List Bool) (hl : xs.length < 1954687338268) : ∀ (d n : Nat), n + d = xs.length → Ev (fun k => scrimlaw09_own.l0 k xs (xs.length : Int) (n : Int) ((xs.take n).map c50) bs) (xs.map c50, bs)
  | 0, n, h => by
    obtain rfl : n = xs.length := by omega
    exact Ev.step (f := fun k => some (xs.map c50, bs)) (fun k => by rw [scrimlaw09_own.l0, if_neg (by omega), List.take_length]) (Ev.now _)
  | d + 1, n, h => by
    have hn : n < xs.length := by omega
    refine Ev.step (fun k => ?_) (rOwn_l xs bs hl d (n + 1) (by omega))
    rw [scrimlaw09_own.l0, if_pos (by omega), if_pos (by omega), if_pos (by omega), if_pos (by rw [List.length_map, List.length_take]; omega), w64b n (by omega), rd44_at hn, List.take_succ_eq_append_getElem hn, List.map_append]
    rfl
theorem rOwn (xs : List S44) (bs : List Bool) (hl : xs.length < 1954687338268) : Ev (fun k => scrimlaw09_own.f k xs bs) (xs.map c50, bs) := by
  refine Ev.congr (f := fun k => scrimlaw09_own.l0 k xs (xs.length : Int) ((0 : Nat) : Int) ((xs.take 0).map c50) bs) (fun k => ?_) (rOwn_l xs bs hl xs.length 0 (by omega))
  rw [scrimlaw09_own.f]
  rfl
/-! ### Large -/
def addL : Nat → List ByteArray → Nat
  | n, [] => n
  | n, s :: t => if n ≤ 500 then addL (n + 1 + s.size) t else n
def sumL (l : List ByteArray) : Nat := (l.map fun s => 1 + s.size).sum
def cost (x : S50) : Nat := 1 + x.f0.size + sumL x.f1 + sumL x.f2
def largeN : Nat → List S50 → Nat
  | n, [] => n
  | n, x :: xs => if n ≤ 500 then largeN (addL (addL (n + 1 + x.f0.size) x.f1) x.f2) xs else n
def small (x : S50) : Prop := x.f0.size ≤ 140737488355328 ∧ (∀ s ∈ x.f1, s.size ≤ 140737488355328) ∧ ∀ s ∈ x.f2, s.size ≤ 140737488355328
theorem addL_ge : ∀ (l : List ByteArray) (n : Nat), n ≤ addL n l
  | [], n => Nat.le_refl _
  | s :: t, n => by
    rw [addL]
    split
    · have := addL_ge t (n + 1 + s.size); omega
    · exact Nat.le_refl _
theorem addL_le : ∀ (l : List ByteArray) (n : Nat), (∀ s ∈ l, s.size ≤ 140737488355328) → n ≤ 300000000000000 → addL n l ≤ 300000000000000
  | [], n, _, h => h
  | s :: t, n, hs, h => by
    rw [addL]
    split
    · have := hs s (by simp)
      exact addL_le t _ (fun u hu => hs u (by simp [hu])) (by omega)
    · exact h
theorem addL_eq : ∀ (l : List ByteArray) (n : Nat), addL n l ≤ 500 → addL n l = n + sumL l
  | [], n, _ => rfl
  | s :: t, n, h => by
    have hs : sumL (s :: t) = (1 + s.size) + sumL t := by unfold sumL; rw [List.map_cons, List.sum_cons]
    rw [addL] at h ⊢
    split at h
    · rename_i h5
      rw [if_pos h5, addL_eq t _ h, hs]
      omega
    · omega
theorem largeN_eq : ∀ (l : List S50) (n : Nat), largeN n l ≤ 500 → largeN n l = n + (l.map cost).sum
  | [], n, _ => rfl
  | x :: xs, n, h => by
    rw [largeN] at h ⊢
    split at h
    · rename_i h5
      have e := largeN_eq xs _ h
      have g2 := addL_ge x.f2 (addL (n + 1 + x.f0.size) x.f1)
      rw [if_pos h5, e, List.map_cons, List.sum_cons]
      rw [e] at h
      have e2 := addL_eq x.f2 (addL (n + 1 + x.f0.size) x.f1) (by omega)
      have e1 := addL_eq x.f1 (n + 1 + x.f0.size) (by omega)
      rw [e2, e1]
      unfold cost
      omega
    · omega
theorem w64n (a b : Nat) (h : a + b < 4611686018427387904) : wrap64 (wrap64 ((a : Int) + 1) + (b : Int)) = ((a + 1 + b : Nat) : Int) := by
  rw [w64b a (by omega), w64 (by omega) (by omega)]
  omega
section
variable (P : List S50) (B : List Bool) (hz : ∀ x ∈ P, small x) (r : Bool)
include hz
theorem rL2 (i : Nat) (hi : i < P.length) (hi2 : i < 1000000) : ∀ (l : List ByteArray) (j n : Nat), P[i].f2.drop j = l → j ≤ n → n ≤ 300000000000000 → Ev (fun k => scrimref09_Large.l0 k (addL n l : Nat) ((i + 1 : Nat) : Int) P B) r → Ev (fun k => scrimref09_Large.l2 k (n : Int) (i : Int) (j : Int) P B) r
  | [], j, n, h, hj, hn, hr => by
    have hle : P[i].f2.length ≤ j := List.drop_eq_nil_iff.1 h
    refine Ev.step (fun k => ?_) hr
    rw [scrimref09_Large.l2, if_pos (by omega), if_pos (by omega), rd50_at hi, if_neg (by omega), w64b i (by omega), addL]
  | s :: t, j, n, h, hj, hn, hr => by
    have hlt : j < P[i].f2.length := by
      apply Nat.lt_of_not_le
      intro hh
      rw [List.drop_eq_nil_of_le hh] at h
      cases h
    rw [List.drop_eq_getElem_cons hlt] at h
    obtain ⟨h1, h2⟩ := List.cons.inj h
    by_cases h5 : n ≤ 500
    · have hs : s.size ≤ 140737488355328 := (hz _ (List.getElem_mem hi)).2.2 s (by rw [← h1]; exact List.getElem_mem hlt)
      refine Ev.step (fun k => ?_) (rL2 i hi hi2 t (j + 1) (n + 1 + s.size) h2 (by omega) (by omega) (by rw [addL, if_pos h5] at hr; exact hr))
      rw [scrimref09_Large.l2, if_pos (by omega), if_pos (by omega), rd50_at hi, if_pos (by omega), if_pos (by omega), if_pos (by omega), rdOf_at hlt, h1, w64n n s.size (by omega), w64b j (by omega)]
    · refine Ev.step (fun k => ?_) hr
      rw [scrimref09_Large.l2, if_pos (by omega), if_pos (by omega), rd50_at hi, if_pos (by omega), if_neg (by omega), w64b i (by omega), addL, if_neg h5]
theorem rL1 (i : Nat) (hi : i < P.length) (hi2 : i < 1000000) : ∀ (l : List ByteArray) (j n : Nat), P[i].f1.drop j = l → j ≤ n → n ≤ 300000000000000 → Ev (fun k => scrimref09_Large.l0 k (addL (addL n l) P[i].f2 : Nat) ((i + 1 : Nat) : Int) P B) r → Ev (fun k => scrimref09_Large.l1 k (n : Int) (i : Int) (j : Int) P B) r
  | [], j, n, h, hj, hn, hr => by
    have hle : P[i].f1.length ≤ j := List.drop_eq_nil_iff.1 h
    refine Ev.step (f := fun k => scrimref09_Large.j3 k (n : Int) (i : Int) P B) (fun k => ?_) ?_
    · rw [scrimref09_Large.l1, if_pos (by omega), if_pos (by omega), rd50_at hi, if_neg (by omega)]
    · refine Ev.step (f := fun k => scrimref09_Large.l2 k (n : Int) (i : Int) ((0 : Nat) : Int) P B) (fun k => by rw [scrimref09_Large.j3]; rfl) ?_
      exact rL2 P B hz r i hi hi2 P[i].f2 0 n (List.drop_zero) (Nat.zero_le _) hn hr
  | s :: t, j, n, h, hj, hn, hr => by
    have hlt : j < P[i].f1.length := by
      apply Nat.lt_of_not_le
      intro hh
      rw [List.drop_eq_nil_of_le hh] at h
      cases h
    rw [List.drop_eq_getElem_cons hlt] at h
    obtain ⟨h1, h2⟩ := List.cons.inj h
    by_cases h5 : n ≤ 500
    · have hs : s.size ≤ 140737488355328 := (hz _ (List.getElem_mem hi)).2.1 s (by rw [← h1]; exact List.getElem_mem hlt)
      refine Ev.step (fun k => ?_) (rL1 i hi hi2 t (j + 1) (n + 1 + s.size) h2 (by omega) (by omega) (by rw [addL, if_pos h5] at hr; exact hr))
      rw [scrimref09_Large.l1, if_pos (by omega), if_pos (by omega), rd50_at hi, if_pos (by omega), if_pos (by omega), if_pos (by omega), rdOf_at hlt, h1, w64n n s.size (by omega), w64b j (by omega)]
    · rw [addL, if_neg h5] at hr
      refine Ev.step (f := fun k => scrimref09_Large.j3 k (n : Int) (i : Int) P B) (fun k => ?_) ?_
      · rw [scrimref09_Large.l1, if_pos (by omega), if_pos (by omega), rd50_at hi, if_pos (by omega), if_neg (by omega)]
      · refine Ev.step (f := fun k => scrimref09_Large.l2 k (n : Int) (i : Int) ((0 : Nat) : Int) P B) (fun k => by rw [scrimref09_Large.j3]; rfl) ?_
        exact rL2 P B hz r i hi hi2 P[i].f2 0 n (List.drop_zero) (Nat.zero_le _) hn hr
end
def largeV (P : List S50) (B : List Bool) (n : Nat) : Bool := decide (500 < n) || decide (100 < B.length)
theorem rL_end (P : List S50) (B : List Bool) (n i : Nat) (k : Nat) (h : ¬ (i < P.length ∧ n ≤ 500)) : scrimref09_Large.l0 (k + 1 + 1) (n : Int) (i : Int) P B = some (largeV P B n) := by
  have e : ∀ k, scrimref09_Large.j1 (k + 1) (n : Int) (i : Int) false P B = some (largeV P B n) := fun k => by
    rw [scrimref09_Large.j1, if_neg (by decide)]
    unfold largeV
    by_cases h5 : (n : Int) > 500
    · rw [if_pos h5, decide_eq_true (show 500 < n by omega)]; rfl
    · rw [if_neg h5, decide_eq_false (show ¬ 500 < n by omega), Bool.false_or]
      congr 1
      by_cases hb : 100 < B.length
      · rw [decide_eq_true hb, decide_eq_true (by omega)]
      · rw [decide_eq_false hb, decide_eq_false (by omega)]
  rw [scrimref09_Large.l0]
  by_cases h1 : i < P.length
  · rw [if_pos (by omega), decide_eq_false (by omega), e]
  · rw [if_neg (by omega), e]
theorem rL0 (P : List S50) (B : List Bool) (hz : ∀ x ∈ P, small x) : ∀ (l : List S50) (i n : Nat), P.drop i = l → i ≤ n → n ≤ 300000000000000 → Ev (fun k => scrimref09_Large.l0 k (n : Int) (i : Int) P B) (largeV P B (largeN n l))
  | [], i, n, h, hj, hn => by
    have hle : P.length ≤ i := List.drop_eq_nil_iff.1 h
    refine ⟨2, fun k hk => ?_⟩
    obtain ⟨m, rfl⟩ : ∃ m, k = m + 1 + 1 := ⟨k - 2, by omega⟩
    exact rL_end P B n i m (by omega)
  | x :: xs, i, n, h, hj, hn => by
    have hlt : i < P.length := by
      apply Nat.lt_of_not_le
      intro hh
      rw [List.drop_eq_nil_of_le hh] at h
      cases h
    rw [List.drop_eq_getElem_cons hlt] at h
    obtain ⟨h1, h2⟩ := List.cons.inj h
    rw [largeN]
    by_cases h5 : n ≤ 500
    · have hx := hz _ (List.getElem_mem hlt)
      rw [if_pos h5]
      have b1 := addL_le P[i].f1 (n + 1 + P[i].f0.size) hx.2.1 (by have := hx.1; omega)
      have b2 := addL_le P[i].f2 _ hx.2.2 b1
      have g1 := addL_ge P[i].f1 (n + 1 + P[i].f0.size)
      have g2 := addL_ge P[i].f2 (addL (n + 1 + P[i].f0.size) P[i].f1)
      have ih := rL0 P B hz xs (i + 1) (addL (addL (n + 1 + P[i].f0.size) P[i].f1) P[i].f2) h2 (by omega) b2
      rw [← h1]
      have h3 := rL1 P B hz _ i hlt (by omega) P[i].f1 0 (n + 1 + P[i].f0.size) (List.drop_zero) (Nat.zero_le _) (by have := hx.1; omega) ih
      refine Ev.step (f := fun k => scrimref09_Large.j1 k (n : Int) (i : Int) true P B) (fun k => by rw [scrimref09_Large.l0, if_pos (by omega), decide_eq_true (by omega)]) ?_
      refine Ev.step (fun k => ?_) h3
      rw [scrimref09_Large.j1, if_pos rfl, if_pos (by omega), if_pos (by omega), rd50_at hlt, w64n n _ (by have := hx.1; omega)]
      rfl
    · rw [if_neg h5]
      refine ⟨2, fun k hk => ?_⟩
      obtain ⟨m, rfl⟩ : ∃ m, k = m + 1 + 1 := ⟨k - 2, by omega⟩
      exact rL_end P B n i m (by omega)
theorem rLarge (P : List S50) (B : List Bool) (hz : ∀ x ∈ P, small x) : ∃ b, Ev (fun k => scrimref09_Large.f k P B) b ∧ (b = false → (P.map cost).sum ≤ 500 ∧ B.length ≤ 100) := by
  refine ⟨largeV P B (largeN 0 P), Ev.congr (fun k => by rw [scrimref09_Large.f]; rfl) (rL0 P B hz P 0 0 List.drop_zero (Nat.le_refl _) (by omega)), fun h => ?_⟩
  unfold largeV at h
  rw [Bool.or_eq_false_iff, decide_eq_false_iff_not, decide_eq_false_iff_not] at h
  have := largeN_eq P 0 (by omega)
  omega
/-! ### what isn't large is small enough for all calls -/
theorem sumL_len (l : List ByteArray) : l.length ≤ sumL l := by
  induction l with
  | nil => exact Nat.zero_le _
  | cons a t ih =>
    have e : sumL (a :: t) = (1 + a.size) + sumL t := by unfold sumL; rw [List.map_cons, List.sum_cons]
    rw [List.length_cons]
    omega
theorem cost_mem {P : List S44} {x : S44} (h : x ∈ P) : cost (c50 x) ≤ ((P.map c50).map cost).sum := by
  induction P with
  | nil => cases h
  | cons a t ih =>
    rw [List.map_cons, List.map_cons, List.sum_cons]
    rcases List.mem_cons.1 h with rfl | h
    · omega
    · have := ih h; omega
theorem cost_len (P : List S44) : P.length ≤ ((P.map c50).map cost).sum := by
  induction P with
  | nil => exact Nat.zero_le _
  | cons a t ih =>
    rw [List.map_cons, List.map_cons, List.sum_cons, List.length_cons]
    have : 1 ≤ cost (c50 a) := by unfold cost; omega
    omega
theorem name_len {l : List UInt8} (h : nameV l = true) : l.length ≤ 20 := by
  unfold nameV at h
  rw [Bool.and_eq_true, Bool.and_eq_true] at h
  obtain ⟨h1, h2, _⟩ := h
  have h2 := of_decide_eq_true h2
  unfold nameOk at h1
  rw [Bool.and_eq_true, Bool.and_eq_true] at h1
  have := of_decide_eq_true h1.2.1
  omega
theorem sum_names : ∀ {l : List ByteArray}, (∀ s ∈ l, nameV s.data.toList = true) → sumL l ≤ 21 * l.length
  | [], _ => Nat.le_refl _
  | a :: t, h => by
    have e : sumL (a :: t) = (1 + a.size) + sumL t := by unfold sumL; rw [List.map_cons, List.sum_cons]
    have h1 := name_len (h a (by simp))
    have h2 := sum_names (l := t) fun s hs => h s (by simp [hs])
    rw [← sz] at h1
    rw [e, List.length_cons]
    omega
theorem may_sum {x : S44} (h : mayX (it x) = true) : x.f0.size + sumL x.f1 + sumL x.f2 ≤ 200 := by
  obtain ⟨h1, h2, h3⟩ := may_parts h
  have e1 : x.f1.length + x.f2.length ≤ 8 := by
    have h3 : (tl (it x)).length ≤ 8 := h3
    unfold tl at h3
    rw [List.length_append, List.length_append, List.length_map, List.length_map] at h3
    have : (it x).2.1 = x.f1 := rfl
    have : (it x).2.2.1 = x.f2 := rfl
    simp only [it] at h3
    omega
  have a1 := sum_names (l := x.f1) fun s hs => h2 s (List.mem_append_left _ hs)
  have a2 := sum_names (l := x.f2) fun s hs => h2 s (List.mem_append_right _ hs)
  have a0 : x.f0.size ≤ 20 := by
    rw [sz]
    rcases h1 with h1 | h1
    · have h1 : x.f0.data.toList = [] := h1
      rw [h1]; simp
    · exact name_len h1
  omega
/-! ### the calls -/
/-! ### Weight -/
def wOf (x : S44) : Int := wrap64 (wrap64 (wrap64 (10000 * (x.f1.length : Int)) + wrap64 (100 * wrap64 (wrap64 ((x.f2.length : Int) + truthV x.f3) + truthV x.f4))) + wrap64 (1 * truthV (x.f0.toList != ([] : List UInt8))))
def wL : Int → List S44 → Int
  | n, [] => n
  | n, x :: xs => wL (wrap64 (n + wOf x)) xs
theorem truth_f (b : Bool) : selector_truth.f b = some (truthV b) := by cases b <;> rfl
theorem rWeight_l (xs : List S44) (hl : xs.length ≤ 1000000) : ∀ (d n : Nat) (a : Int), n + d = xs.length → Ev (fun k => selector_Weight.l0 k a xs (xs.length : Int) (n : Int)) (wL a (xs.drop n))
  | 0, n, a, h => by
    obtain rfl : n = xs.length := by omega
    rw [List.drop_length]
    exact Ev.step (f := fun k => some a) (fun k => by rw [selector_Weight.l0, if_neg (by omega)]) (Ev.now _)
  | d + 1, n, a, h => by
    have hn : n < xs.length := by omega
    rw [List.drop_eq_getElem_cons hn, wL]
    refine Ev.step (fun k => ?_) (rWeight_l xs hl d (n + 1) _ (by omega))
    rw [selector_Weight.l0, if_pos (by omega), if_pos (by omega), if_pos (by omega), rd44_at hn, truth_f, truth_f, truth_f, Option.bind_some, Option.bind_some, Option.bind_some, w64s n (by omega)]
    rfl
theorem rWeight (xs : List S44) (bs : List Bool) (hl : xs.length ≤ 1000000) : Ev (fun k => selector_Weight.f k xs bs) (wL 0 xs) := by
  refine Ev.congr (f := fun k => selector_Weight.l0 k 0 xs (xs.length : Int) ((0 : Nat) : Int)) (fun k => by rw [selector_Weight.f]; rfl) ((rWeight_l xs hl xs.length 0 0 (by omega)).eq (by rw [List.drop_zero]))
end Go.Proofs.YtdifaomkaekglabDoor.Pure
