/- scan.Strip: contract of a function of the given program, proved by walking its text; no condition beside those that each theorem states. -/
import Derived.Test.YtdifaomkaekglaaDoorScA
set_option linter.unusedVariables false
set_option linter.unusedSimpArgs false
namespace Go.Proofs.Scn
open Go.RowKit Go.Lib Go.Proofs.YtdifaomkaekglaaDoorW.PrintWords
/-! ### Strip -/
def stripF : Nat → List UInt8 → List UInt8
  | 0, _ => []
  | k + 1, s => if (Lib.cut s [47, 42]).2.2 = true then (Lib.cut s [47, 42]).1 ++ 32 :: stripF k (Lib.cut (Lib.cut s [47, 42]).2.1 [42, 47]).2.1 else (Lib.cut s [47, 42]).1
def stripV (s : ByteArray) : ByteArray := ⟨(stripF (s.size + 1) s.data.toList).toArray⟩
theorem cut_yes {s sep : List UInt8} (h : (Lib.cut s sep).2.2 = true) : (Lib.cut s sep).1.length + sep.length + (Lib.cut s sep).2.1.length = s.length := by
  unfold Lib.cut at h ⊢
  by_cases c : 0 ≤ Lib.index s sep
  · rw [if_pos c]
    have := Lib.index_room s sep c
    simp only [List.length_take, List.length_drop]
    omega
  · rw [if_neg c] at h
    cases h
theorem cut_no {s sep : List UInt8} (h : (Lib.cut s sep).2.2 = false) : (Lib.cut s sep).1 = s := by
  unfold Lib.cut at h ⊢
  by_cases c : 0 ≤ Lib.index s sep
  · rw [if_pos c] at h
    cases h
  · rw [if_neg c]
theorem cut_rest_le (s sep : List UInt8) : (Lib.cut s sep).2.1.length ≤ s.length := by
  unfold Lib.cut
  split
  · simp
  · simp
/-- the package variable that strings.Index reads holds a number -/
def Mx (w : World) : Prop := ∃ m, w.cell? ⟨0, 0, none⟩ = some (.int .i64 m)
theorem Mx.below {w w' : World} (h : Mx w) (hb : Below w.heap.size w w') : Mx w' := by
  obtain ⟨m, hm⟩ := h
  exact ⟨m, (hb.cell (p := ⟨0, 0, none⟩) (World.block_lt_of_cell? _ _ hm)).trans hm⟩
theorem Mx.draws {w : World} (h : Mx w) (n : Nat) : Mx (w.drewN n) := h
theorem cut_at (s : List UInt8) (sep : ByteArray) (w : World) (hs : s.length < 4294967281) (hm : Mx w) (a b : List UInt8) (is : Bool) (h : Lib.cut s sep.data.toList = (a, b, is)) :
    Calls Tryd.prog 22 #[.string ⟨s.toArray⟩, .string sep] w fun e w' => e = .returned (.tuple #[.string ⟨a.toArray⟩, .string ⟨b.toArray⟩, .bool is]) ∧ ∃ n, w' = w.drewN n := by
  obtain ⟨m, hm⟩ := hm
  have c := Tryd.strings_Cut ⟨s.toArray⟩ sep m w (by simpa [Lib.size_mk] using hs) hm
  rw [show (⟨s.toArray⟩ : ByteArray).data.toList = s by simp, h] at c
  exact c
theorem strip_no {k : Nat} {s : List UInt8} (h : (Lib.cut s [47, 42]).2.2 = false) : stripF (k + 1) s = s := by
  rw [stripF, if_neg (by rw [h]; decide), cut_no h]
theorem strip_yes {k : Nat} {s : List UInt8} (h : (Lib.cut s [47, 42]).2.2 = true) : stripF (k + 1) s = (Lib.cut s [47, 42]).1 ++ 32 :: stripF k (Lib.cut (Lib.cut s [47, 42]).2.1 [42, 47]).2.1 := by
  rw [stripF, if_pos h]
def StAt (s : ByteArray) (w wr : World) (rest acc : List UInt8) (fuel : Nat) : Prop := Lib.IsBuilder 45 5 w.heap.size w.heap.size (Lib.byteCells acc) wr ∧ Below w.heap.size w wr ∧ Mx wr ∧ acc ++ stripF fuel rest = stripF (s.size + 1) s.data.toList ∧ rest.length < fuel ∧ acc.length + rest.length ≤ s.size
set_option maxHeartbeats 4000000 in
set_option maxRecDepth 100000 in
theorem strip_any (s : ByteArray) (w : World) (hs : s.size < 4294967281) (hm : Mx w) :
    Calls Tryd.prog 10 #[.string s] w fun e w' => e = .returned (.string (stripV s)) ∧ Below w.heap.size w w' := by
  have hBw : w.heap.size < (w.alloc (.cells #[.pointer none, .slice none 0 0] 45)).heap.size := by simp
  have h0 : Aside (StAt s w (w.alloc (.cells #[.pointer none, .slice none 0 0] 45)) s.data.toList [] (s.size + 1)) :=
    ⟨Lib.fresh_isBuilder _ _ w, (Below.refl _ w).alloc (Nat.le_refl _) _, hm.below ((Below.refl _ w).alloc (Nat.le_refl _) _), rfl, by rw [← Lib.size_eq]; omega, by rw [← Lib.size_eq]; simp⟩
  have HM : Aside (Mx w) := hm
  clear hm hBw
  go_enter Tryd.func10, Tryd.ntmps10
  go_wp2
  go_loopw [0] (fun v wr => ∃ (rest acc : List UInt8) (fuel : Nat), v = .string ⟨rest.toArray⟩ ∧ Aside (StAt s w wr rest acc fuel)) (fun v _ => match v with | .string x => x.size | _ => 0)
  case atStart => exact ⟨s.data.toList, [], s.size + 1, rfl, h0.out⟩
  case round =>
    clear h0
    obtain ⟨rest, acc, fuel, rfl, A1⟩ := hrel
    obtain ⟨fu, rfl⟩ : ∃ fu, fuel = fu + 1 := ⟨fuel - 1, by have := A1.out.2.2.2.2.1; omega⟩
    have hrl : rest.length ≤ s.size := by have := A1.out.2.2.2.2.2; omega
    obtain ⟨a, b, is, hc⟩ : ∃ a b is, Lib.cut rest [47, 42] = (a, b, is) := ⟨_, _, _, rfl⟩
    have HC : Aside (Lib.cut rest [47, 42] = (a, b, is)) := hc
    clear hc
    cases is
    · go_wp2_with fail
      refine (cut_at rest ⟨#[47, 42]⟩ wr (by omega) A1.out.2.2.1 a b false HC.out).mono ?_
      rintro e w1 ⟨rfl, n1, rfl⟩
      have ea : a = rest := by have := cut_no (s := rest) (sep := [47, 42]) (by rw [HC.out]); rw [HC.out] at this; exact this
      subst ea
      have HI : Aside (Lib.IsBuilder 45 5 w.heap.size w.heap.size (Lib.byteCells acc) (wr.drewN n1) ∧ Below w.heap.size w (wr.drewN n1)) := ⟨A1.out.1, ShX.below_draws A1.out.2.1 n1⟩
      have hal : acc.length + a.length ≤ s.size := A1.out.2.2.2.2.2
      have HE : Aside (acc ++ a = stripF (s.size + 1) s.data.toList) := by rw [← A1.out.2.2.2.1, strip_no (by rw [HC.out])]; exact rfl
      clear HC A1
      go_wp2_with fail
      refine (Tryd.Builder_WriteString w.heap.size w.heap.size _ ⟨a.toArray⟩ _ HI.out.1 (by rw [Lib.byteCells_length]; simp only [Lib.size_mk]; omega) HI.out.2.size).mono ?_
      rintro e w2 ⟨rfl, hb2, hw2⟩
      have HI2 : Aside (Lib.IsBuilder 45 5 w.heap.size w.heap.size (Lib.byteCells (acc ++ a)) w2 ∧ Below w.heap.size w w2) := ⟨(by rw [Lib.byteCells_append]; exact Or.inr hb2), HI.out.2.trans hw2⟩
      clear HI hb2 hw2
      go_wp2_with fail
      refine (Tryd.Builder_String_any w.heap.size w.heap.size _ _ HI2.out.1 HI2.out.2.size).mono ?_
      rintro e w3 ⟨rfl, hw3⟩
      have HB3 : Aside (Below w.heap.size w w3) := HI2.out.2.trans hw3
      clear hw3
      go_wp2
      go_ret
      exact ⟨by show _ = Ending.returned (Value.string ⟨(stripF (s.size + 1) s.data.toList).toArray⟩); rw [← HE.out]; rfl, HB3.out⟩
    · have hlen := cut_yes (s := rest) (sep := [47, 42]) (by rw [HC.out])
      rw [HC.out] at hlen
      simp only [List.length_cons, List.length_nil] at hlen
      obtain ⟨a2, b2, is2, hc2⟩ : ∃ a2 b2 is2, Lib.cut b [42, 47] = (a2, b2, is2) := ⟨_, _, _, rfl⟩
      have HC2 : Aside (Lib.cut b [42, 47] = (a2, b2, is2)) := hc2
      have hb2l : b2.length ≤ b.length := by have := cut_rest_le b [42, 47]; rw [hc2] at this; exact this
      clear hc2
      have hal := A1.out.2.2.2.2.2
      have hfu := A1.out.2.2.2.2.1
      have he0 : (acc ++ (a ++ [32])) ++ stripF fu b2 = stripF (s.size + 1) s.data.toList := by
        rw [← A1.out.2.2.2.1, strip_yes (by rw [HC.out]), HC.out, HC2.out]
        simp
      have HE : Aside ((acc ++ (a ++ [32])) ++ stripF fu b2 = stripF (s.size + 1) s.data.toList) := he0
      clear he0
      go_wp2_with fail
      refine (cut_at rest ⟨#[47, 42]⟩ wr (by omega) A1.out.2.2.1 a b true HC.out).mono ?_
      rintro e w1 ⟨rfl, n1, rfl⟩
      have HI : Aside (Lib.IsBuilder 45 5 w.heap.size w.heap.size (Lib.byteCells acc) (wr.drewN n1) ∧ Below w.heap.size w (wr.drewN n1) ∧ Mx (wr.drewN n1)) := ⟨A1.out.1, ShX.below_draws A1.out.2.1 n1, A1.out.2.2.1⟩
      clear HC A1
      go_wp2_with fail
      refine (Tryd.Builder_WriteString w.heap.size w.heap.size _ ⟨a.toArray⟩ _ HI.out.1 (by rw [Lib.byteCells_length]; simp only [Lib.size_mk]; omega) HI.out.2.1.size).mono ?_
      rintro e w2 ⟨rfl, hb2, hw2⟩
      have HI2 : Aside (Lib.IsBuilder 45 5 w.heap.size w.heap.size (Lib.byteCells (acc ++ a)) w2 ∧ Below w.heap.size w w2) := ⟨(by rw [Lib.byteCells_append]; exact Or.inr hb2), HI.out.2.1.trans hw2⟩
      clear HI hb2 hw2
      go_wp2_with fail
      refine (Tryd.Builder_WriteByte w.heap.size w.heap.size _ 32 _ HI2.out.1 (by rw [Lib.byteCells_length]; simp; omega) HI2.out.2.size).mono ?_
      rintro e w3 ⟨rfl, hb3, hw3⟩
      have HI3 : Aside (Lib.IsBuilder 45 5 w.heap.size w.heap.size (Lib.byteCells (acc ++ (a ++ [32]))) w3 ∧ Below w.heap.size w w3) := ⟨(by rw [← List.append_assoc, Lib.byteCells_append]; exact Or.inr hb3), HI2.out.2.trans hw3⟩
      have HM3 : Aside (Mx w3) := HM.out.below HI3.out.2
      clear HI2 hb3 hw3
      go_wp2_with fail
      refine (cut_at b ⟨#[42, 47]⟩ w3 (by omega) HM3.out a2 b2 is2 HC2.out).mono ?_
      rintro e w4 ⟨rfl, n4, rfl⟩
      go_wp2
      go_roundw
      case rel => exact ⟨b2, acc ++ (a ++ [32]), fu, rfl, HI3.out.1, ShX.below_draws HI3.out.2 n4, HM3.out, HE.out, by omega, by simp; omega⟩
      case measure => simp only [Lib.size_mk]; omega
end Go.Proofs.Scn
