/- The plain half of the Selector laws, third part: what is printed is read as what it was; what is read may be. -/
import Derived.Test.YtdifaomkaekglabDoorHS3
import Derived.Test.YtdifaomkaekglabDoorScQ
set_option linter.unusedVariables false
set_option linter.unusedSimpArgs false
namespace Go.Proofs.YtdifaomkaekglabDoor.Pure
open Go.RowKit Go.Proofs.YtdifaomkaekglabDoor.HS Go.Proofs.YtdifaomkaekglabDoorW.PrintWords Go.Proofs.YtdifaomkaekglabDoorW.PrintLast Go.Proofs.YtdifaomkaekglabDoorW.PrintMore Go.Proofs.Scn Go.Proofs.Tok
theorem w64 {n : Int} (h1 : -9223372036854775808 ≤ n) (h2 : n ≤ 9223372036854775807) : wrap64 n = n := by unfold wrap64; omega
theorem w64s (i : Nat) (h : i < 100000000) : wrap64 ((i : Int) + 1) = ((i + 1 : Nat) : Int) := by rw [w64 (by omega) (by omega)]; omega
theorem _root_.Go.Proofs.YtdifaomkaekglabDoorW.PrintWords.Ev.eq {α : Type} {g : Nat → Option α} {a b : α} (h : Ev g a) (e : a = b) : Ev g b := e ▸ h
theorem sz (s : ByteArray) : s.size = s.data.toList.length := Lib.size_eq s
theorem rdOf_at {l : List ByteArray} {i : Nat} (h : i < l.length) : rdOf ByteArray.empty l (i : Int) = l[i] := by
  unfold rdOf
  rw [Int.toNat_natCast, List.getD, List.getElem?_eq_getElem h]
  rfl
/-! ### marked -/
abbrev ms : List UInt8 := [35, 46, 58]
abbrev isM (c : UInt8) : Bool := ms.contains c
def mk : List UInt8 → List UInt8 → List (List UInt8)
  | cur, [] => [cur]
  | cur, c :: t => if isM c = true then cur :: mk [c] t else mk (cur ++ [c]) t
/-! ### simple -/
def it (x : S44) : Smp := (x.f0, x.f1, x.f2, x.f3, x.f4)
end Go.Proofs.YtdifaomkaekglabDoor.Pure
namespace Go.Proofs.YtdifaomkaekglabDoor.Pure
open Go.RowKit Go.Proofs.YtdifaomkaekglabDoor.HS Go.Proofs.YtdifaomkaekglabDoorW.PrintWords Go.Proofs.YtdifaomkaekglabDoorW.PrintLast Go.Proofs.YtdifaomkaekglabDoorW.PrintMore Go.Proofs.Scn Go.Proofs.Tok
/-! ### every > gets blanks about it -/
/-! ### words -/
/-! ### Read -/
end Go.Proofs.YtdifaomkaekglabDoor.Pure
namespace Go.Proofs.YtdifaomkaekglabDoor.Pure
open Go.RowKit Go.Proofs.YtdifaomkaekglabDoor.HS Go.Proofs.YtdifaomkaekglabDoorW.PrintWords Go.Proofs.YtdifaomkaekglabDoorW.PrintLast Go.Proofs.YtdifaomkaekglabDoorW.PrintMore Go.Proofs.Scn Go.Proofs.Tok
/-! ### names -/
/-! ### a part's text -/
def lkW : List UInt8 := [58, 108, 105, 110, 107]
def viW : List UInt8 := [58, 118, 105, 115, 105, 116, 101, 100]
def tl (x : Smp) : List (List UInt8) := (x.2.1.map fun s => 35 :: s.data.toList) ++ ((x.2.2.1.map fun s => 46 :: s.data.toList) ++ ((if x.2.2.2.1 = true then [lkW] else []) ++ (if x.2.2.2.2 = true then [viW] else [])))
theorem may_parts {x : Smp} (h : mayX x = true) : (x.1.data.toList = [] ∨ nameV x.1.data.toList = true) ∧ (∀ s ∈ x.2.1 ++ x.2.2.1, nameV s.data.toList = true) ∧ (tl x).length ≤ 8 := by
  unfold mayX mayV at h
  rw [Bool.and_eq_true, Bool.and_eq_true, Bool.or_eq_true, decide_eq_true_iff] at h
  obtain ⟨h1, h2, h3⟩ := h
  refine ⟨h1, ?_, ?_⟩
  · intro s hs
    rw [Bool.not_eq_true'] at h2
    have := List.any_eq_false.1 h2 s hs
    simpa [noName] using this
  · have h3 := of_decide_eq_true h3
    unfold tl
    unfold truthV at h3
    rw [List.length_append] at h3
    rw [List.length_append, List.length_append, List.length_append, List.length_map, List.length_map]
    cases hl : x.2.2.2.1 <;> cases hv : x.2.2.2.2 <;> simp [hl, hv] at h3 ⊢ <;> omega
def T (x : Smp) : List UInt8 := (textV x).data.toList
/-! ### the words of what is printed -/
def sp (b : Bool) : List UInt8 := if b = true then [32, 62, 32] else [32]
/-! ### what is printed is read as what it was -/
/-! ### what is read may be -/
end Go.Proofs.YtdifaomkaekglabDoor.Pure
