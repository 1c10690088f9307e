/- Contracts proved by walking their text; no condition beside those that each theorem states. -/
import Derived.Test.YtolfpgccebdlpaaGreatDoorProg
import Derived.Below
import Derived.Deep.Draws
import Derived.Deep.AppendLies
import Derived.Maps.AppendAt
import Derived.OwnWalk
import Derived.Laws.BytesArg
import Derived.Laws.MakeOwn
import Derived.Laws.OwnMore
import Derived.Deep.OwnRows
import Derived.Tactics
import Derived.Lib.ConvBytes
import Derived.Laws.Slices
import Derived.WalkKit
import Derived.KernelRfl
import Derived.RowKit3
import Derived.Deep.LoopGhost
import Derived.Deep.QuietTactic
import Derived.BigQuiet
import Derived.WideLaws
import Derived.Deep.DeepCutAuto
import Derived.Deep.CutBlock
import Derived.Deep.RegionHeld3
import Derived.Laws.Rows
import Derived.Lib.AppendStr
import Derived.ArgAppend
import Derived.Laws.IdiomCopy
import Derived.OrdersHeld
import Derived.Laws.BitsLemmas
import Derived.RowKit
import Derived.Test.YtolfpgccebdlpaaGreatDoorScC
import Derived.Test.YtolfpgccebdlpaaGreatDoorPrn
import Derived.Test.YtolfpgccebdlpaaGreatDoorShS
import Derived.Test.YtolfpgccebdlpaaGreatDoorRgn
import Derived.Test.YtolfpgccebdlpaaGreatDoorVaG
import Derived.Test.YtolfpgccebdlpaaGreatDoorWWords
import Derived.Test.YtolfpgccebdlpaaGreatDoorWLast
import Derived.Test.YtolfpgccebdlpaaGreatDoorWFour
import Derived.Test.YtolfpgccebdlpaaGreatDoorWQPut
import Derived.Test.YtolfpgccebdlpaaGreatDoorWEqStruct
namespace Go.Proofs.YtolfpgccebdlpaaGreatDoor.HT
open Go.RowKit Go.Proofs.YtolfpgccebdlpaaGreatDoorW.PrintWords Go.Proofs.YtolfpgccebdlpaaGreatDoorW.PrintLast Go.Proofs.YtolfpgccebdlpaaGreatDoorW.PrintMore
attribute [local go_sem] max2_int min2_int max_two min_two max_three min_three max_four min_four   -- for this text's walks alone
set_option linter.unusedVariables false
set_option linter.unusedSimpArgs false



theorem info4 : (Tryz.prog.info? 4).map (fun i => (i.zero, i.size, i.bytes)) = some (some (.bool false), 1, 1) := by kernel_rfl
theorem info9 : (Tryz.prog.info? 9).map (fun i => (i.zero, i.size, i.bytes)) = some (some (.string ⟨#[]⟩), 1, 16) := by kernel_rfl
theorem info25 : (Tryz.prog.info? 25).map (fun i => (i.zero, i.size, i.bytes)) = some (some (.agg #[(.slice none 0 0), (.slice none 0 0)]), 2, 48) := by kernel_rfl
theorem info80 : (Tryz.prog.info? 80).map (fun i => (i.zero, i.size, i.bytes)) = some (some (.agg #[(.string ⟨#[]⟩), (.slice none 0 0), (.slice none 0 0), (.bool false), (.bool false)]), 5, 72) := by kernel_rfl
theorem info111 : (Tryz.prog.info? 111).map (fun i => (i.zero, i.size, i.bytes)) = some (some (.agg #[(.int .i64 0), (.int .i64 0), (.int .i64 0), (.bool false)]), 4, 32) := by kernel_rfl
theorem info115 : (Tryz.prog.info? 115).map (fun i => (i.zero, i.size, i.bytes)) = some (some (.agg #[(.slice none 0 0), (.slice none 0 0)]), 2, 48) := by kernel_rfl
theorem info119 : (Tryz.prog.info? 119).map (fun i => (i.zero, i.size, i.bytes)) = some (some (.agg #[(.string ⟨#[]⟩), (.string ⟨#[]⟩)]), 2, 32) := by kernel_rfl
theorem info123 : (Tryz.prog.info? 123).map (fun i => (i.zero, i.size, i.bytes)) = some (some (.agg #[(.int .i64 0), (.int .i64 0), (.int .i64 0), (.bool false)]), 4, 32) := by kernel_rfl
-- the values' own types
/-! #### struct type 80 -/
structure S80 where
  f0 : ByteArray
  f1 : (List ByteArray)
  f2 : (List ByteArray)
  f3 : Bool
  f4 : Bool
def z80 : S80 := ⟨(⟨#[]⟩ : ByteArray), ([] : List ByteArray), ([] : List ByteArray), false, false⟩
def k80 : Kd S80 := Kd.iso (Kd.pair Kd.string (Kd.pair (Kd.slice 9 Kd.string) (Kd.pair (Kd.slice 9 Kd.string) (Kd.pair Kd.bool Kd.bool)))) (fun x : S80 => (x.f0, x.f1, x.f2, x.f3, x.f4))
theorem k80_mkM (w : World) (base : Nat) (ok : Nat → Prop) (x : S80) {v1 : Value} (g1 : Kd.string.R 9 w base ok v1 x.f1) {v2 : Value} (g2 : Kd.string.R 9 w base ok v2 x.f2) : k80.M w base ok x [.string x.f0, v1, v2, .bool x.f3, .bool x.f4] := ⟨[.string x.f0], [v1, v2, .bool x.f3, .bool x.f4], rfl, rfl, ⟨[v1], [v2, .bool x.f3, .bool x.f4], rfl, ⟨v1, rfl, g1⟩, ⟨[v2], [.bool x.f3, .bool x.f4], rfl, ⟨v2, rfl, g2⟩, ⟨[.bool x.f3], [.bool x.f4], rfl, rfl, rfl⟩⟩⟩⟩
/-! #### struct type 25 -/
structure S25 where
  f0 : (List S80)
  f1 : (List Bool)
def k25 : Kd S25 := Kd.iso (Kd.pair (Kd.slice 80 k80) (Kd.slice 4 Kd.bool)) (fun x : S25 => (x.f0, x.f1))
theorem k25_open {w : World} {x : S25} {cs : List Value} (h : k25.K w x cs) : ∃ A0 c0 A1 c1, cs = [.slice A0 x.f0.length c0, .slice A1 x.f1.length c1] ∧ x.f0.length ≤ c0 ∧ k80.C w A0 x.f0.length x.f0 ∧ x.f1.length ≤ c1 ∧ Kd.bool.C w A1 x.f1.length x.f1 := by
  obtain ⟨_, _, rfl, ⟨A0, c0, rfl, l0, g0⟩, ⟨A1, c1, rfl, l1, g1⟩⟩ := h
  exact ⟨A0, c0, A1, c1, rfl, l0, g0, l1, g1⟩
theorem k25_mkM (w : World) (base : Nat) (ok : Nat → Prop) (x : S25) {v0 : Value} (g0 : k80.R 80 w base ok v0 x.f0) {v1 : Value} (g1 : Kd.bool.R 4 w base ok v1 x.f1) : k25.M w base ok x [v0, v1] := ⟨[v0], [v1], rfl, ⟨v0, rfl, g0⟩, ⟨v1, rfl, g1⟩⟩
/-! #### struct type 109 -/
structure S109 where
  f0 : Int
  f1 : Int
def z109 : S109 := ⟨(0 : Int), (0 : Int)⟩
def k109 : Kd S109 := Kd.iso (Kd.pair (Kd.int .i64) (Kd.int .i64)) (fun x : S109 => (x.f0, x.f1))
theorem k109_open {w : World} {x : S109} {cs : List Value} (h : k109.K w x cs) : cs = [.int .i64 x.f0, .int .i64 x.f1] := by
  obtain ⟨_, _, rfl, rfl, rfl⟩ := h
  exact rfl
theorem k109_mkM (w : World) (base : Nat) (ok : Nat → Prop) (x : S109)  : k109.M w base ok x [.int .i64 x.f0, .int .i64 x.f1] := ⟨[.int .i64 x.f0], [.int .i64 x.f1], rfl, rfl, rfl⟩
/-! #### struct type 111 -/
structure S111 where
  f0 : Int
  f1 : S109
  f2 : Bool
def z111 : S111 := ⟨(0 : Int), z109, false⟩
def k111 : Kd S111 := Kd.iso (Kd.pair (Kd.int .i64) (Kd.pair k109 Kd.bool)) (fun x : S111 => (x.f0, x.f1, x.f2))
theorem k111_open {w : World} {x : S111} {cs : List Value} (h : k111.K w x cs) : cs = [.int .i64 x.f0, .int .i64 x.f1.f0, .int .i64 x.f1.f1, .bool x.f2] := by
  obtain ⟨_, _, rfl, rfl, ⟨_, _, rfl, s1, rfl⟩⟩ := h
  obtain rfl := k109_open s1
  exact rfl
def rd_T111 (xs : List S111) (i : Int) : S111 := xs.getD i.toNat z111
theorem at_T111 {w : World} {A : Option Addr} {n : Nat} {xs : List S111} (h : Kd.C k111 w A n xs) (i : Int) (h0 : 0 ≤ i) (h1 : i < n) : ∃ ad , A = some ad ∧ w.cell? (ad.add (i.toNat * 4)) = some (.int .i64 (rd_T111 xs i).f0) ∧ w.cell? ⟨(ad.add (i.toNat * 4)).block, (ad.add (i.toNat * 4)).off + 1, none⟩ = some (.int .i64 (rd_T111 xs i).f1.f0) ∧ w.cell? ⟨(ad.add (i.toNat * 4)).block, (ad.add (i.toNat * 4)).off + 2, none⟩ = some (.int .i64 (rd_T111 xs i).f1.f1) ∧ w.cell? ⟨(ad.add (i.toNat * 4)).block, (ad.add (i.toNat * 4)).off + 3, none⟩ = some (.bool (rd_T111 xs i).f2) := by
  obtain ⟨ad, c, e, _, hK, hc0⟩ := Kd.C_get h z111 i h0 h1
  have hc : ∀ j u, c[j]? = some u → w.cell? (ad.add (i.toNat * 4 + j)) = some u := hc0
  obtain rfl := k111_open hK
  exact ⟨ad, e, hc 0 _ rfl, by rw [← add_field _ _ 1 (by omega)]; exact hc 1 _ rfl, by rw [← add_field _ _ 2 (by omega)]; exact hc 2 _ rfl, by rw [← add_field _ _ 3 (by omega)]; exact hc 3 _ rfl⟩

/-! #### struct type 119 -/
structure S119 where
  f0 : ByteArray
  f1 : ByteArray
def z119 : S119 := ⟨(⟨#[]⟩ : ByteArray), (⟨#[]⟩ : ByteArray)⟩
def k119 : Kd S119 := Kd.iso (Kd.pair Kd.string Kd.string) (fun x : S119 => (x.f0, x.f1))
theorem k119_open {w : World} {x : S119} {cs : List Value} (h : k119.K w x cs) : cs = [.string x.f0, .string x.f1] := by
  obtain ⟨_, _, rfl, rfl, rfl⟩ := h
  exact rfl
theorem k119_mkM (w : World) (base : Nat) (ok : Nat → Prop) (x : S119)  : k119.M w base ok x [.string x.f0, .string x.f1] := ⟨[.string x.f0], [.string x.f1], rfl, rfl, rfl⟩
def rd_T119 (xs : List S119) (i : Int) : S119 := xs.getD i.toNat z119
theorem at_T119 {w : World} {A : Option Addr} {n : Nat} {xs : List S119} (h : Kd.C k119 w A n xs) (i : Int) (h0 : 0 ≤ i) (h1 : i < n) : ∃ ad , A = some ad ∧ w.cell? (ad.add (i.toNat * 2)) = some (.string (rd_T119 xs i).f0) ∧ w.cell? ⟨(ad.add (i.toNat * 2)).block, (ad.add (i.toNat * 2)).off + 1, none⟩ = some (.string (rd_T119 xs i).f1) := by
  obtain ⟨ad, c, e, _, hK, hc0⟩ := Kd.C_get h z119 i h0 h1
  have hc : ∀ j u, c[j]? = some u → w.cell? (ad.add (i.toNat * 2 + j)) = some u := hc0
  obtain rfl := k119_open hK
  exact ⟨ad, e, hc 0 _ rfl, by rw [← add_field _ _ 1 (by omega)]; exact hc 1 _ rfl⟩

/-! #### struct type 115 -/
structure S115 where
  f0 : (List S25)
  f1 : (List S111)
def k115 : Kd S115 := Kd.iso (Kd.pair (Kd.slice 25 k25) (Kd.slice 111 k111)) (fun x : S115 => (x.f0, x.f1))
theorem k115_open {w : World} {x : S115} {cs : List Value} (h : k115.K w x cs) : ∃ A0 c0 A1 c1, cs = [.slice A0 x.f0.length c0, .slice A1 x.f1.length c1] ∧ x.f0.length ≤ c0 ∧ k25.C w A0 x.f0.length x.f0 ∧ x.f1.length ≤ c1 ∧ k111.C w A1 x.f1.length x.f1 := by
  obtain ⟨_, _, rfl, ⟨A0, c0, rfl, l0, g0⟩, ⟨A1, c1, rfl, l1, g1⟩⟩ := h
  exact ⟨A0, c0, A1, c1, rfl, l0, g0, l1, g1⟩
theorem k115_mkM (w : World) (base : Nat) (ok : Nat → Prop) (x : S115) {v0 : Value} (g0 : k25.R 25 w base ok v0 x.f0) {v1 : Value} (g1 : k111.R 111 w base ok v1 x.f1) : k115.M w base ok x [v0, v1] := ⟨[v0], [v1], rfl, ⟨v0, rfl, g0⟩, ⟨v1, rfl, g1⟩⟩
/-! #### struct type 123 -/
structure S123 where
  f0 : Int
  f1 : S109
  f2 : Bool
def k123 : Kd S123 := Kd.iso (Kd.pair (Kd.int .i64) (Kd.pair k109 Kd.bool)) (fun x : S123 => (x.f0, x.f1, x.f2))
theorem k123_mkM (w : World) (base : Nat) (ok : Nat → Prop) (x : S123)  : k123.M w base ok x [.int .i64 x.f0, .int .i64 x.f1.f0, .int .i64 x.f1.f1, .bool x.f2] := ⟨[.int .i64 x.f0], [.int .i64 x.f1.f0, .int .i64 x.f1.f1, .bool x.f2], rfl, rfl, ⟨[.int .i64 x.f1.f0, .int .i64 x.f1.f1], [.bool x.f2], rfl, (k109_mkM w base ok x.f1 ), rfl⟩⟩
end Go.Proofs.YtolfpgccebdlpaaGreatDoor.HT
namespace Go.Proofs.YtolfpgccebdlpaaGreatDoor.HT
open Go.RowKit Go.Proofs.YtolfpgccebdlpaaGreatDoorW.PrintWords Go.Proofs.YtolfpgccebdlpaaGreatDoorW.PrintLast Go.Proofs.YtolfpgccebdlpaaGreatDoorW.PrintMore
attribute [local go_sem] max2_int min2_int max_two min_two max_three min_three max_four min_four   -- for this text's walks alone
set_option linter.unusedVariables false
set_option linter.unusedSimpArgs false

/-! ### scan_Words: function 39 (by hand) -/
def scan_Words.f (a0 : ByteArray) : Option (List ByteArray) := if a0.size < 4294967281 then some (Go.Proofs.Scn.wordsV a0) else none
theorem scan_Words.calls (a0 : ByteArray) (r : List ByteArray) (w : World) (h : scan_Words.f a0 = some r) :
    Calls Tryz.prog 39 #[.string a0] w fun e w' => ∃ v0_ : Value, e = .returned (v0_) ∧ Kd.R Kd.string 9 w' w.heap.size (fun _ => True) v0_ r ∧ Below w.heap.size w w' := by
  unfold scan_Words.f at h
  by_cases h1 : a0.size < 4294967281
  · rw [if_pos h1] at h
    cases h
    exact Go.Proofs.Scn.words_any a0 w h1
  · rw [if_neg h1] at h; cases h


/-! ### strings_ReplaceAll: function 40 (by hand) -/
def strings_ReplaceAll.f (a0 : ByteArray) (a1 : ByteArray) (a2 : ByteArray) : Option ByteArray := if a0.size < 4294967281 ∧ 1 ≤ a1.size ∧ a0.size + Lib.countB a0 a1 * a2.size ≤ 140737488355328 then some ⟨(Lib.replaceAll a0.data.toList a1.data.toList a2.data.toList).toArray⟩ else none
theorem strings_ReplaceAll.calls (a0 : ByteArray) (a1 : ByteArray) (a2 : ByteArray) (r : ByteArray) (w : World) (h : strings_ReplaceAll.f a0 a1 a2 = some r) (hmx : Go.Proofs.Sht.Env w) :
    Calls Tryz.prog 40 #[.string a0, .string a1, .string a2] w fun e w' => e = .returned (.string r) ∧ Below w.heap.size w w' := by
  unfold strings_ReplaceAll.f at h
  by_cases h1 : a0.size < 4294967281 ∧ 1 ≤ a1.size ∧ a0.size + Lib.countB a0 a1 * a2.size ≤ 140737488355328
  · rw [if_pos h1] at h
    cases h
    exact Go.Proofs.Tok.repl_any a0 a1 a2 w hmx.1 h1.1 h1.2.1 h1.2.2
  · rw [if_neg h1] at h; cases h


/-! ### scan_Lower: function 41 (by hand) -/
def scan_Lower.f (a0 : ByteArray) : Option ByteArray := if a0.size < 4294967281 then some (Go.Proofs.Scn.lowV a0) else none
theorem scan_Lower.calls (a0 : ByteArray) (r : ByteArray) (w : World) (h : scan_Lower.f a0 = some r) :
    Calls Tryz.prog 41 #[.string a0] w fun e w' => e = .returned (.string r) ∧ Below w.heap.size w w' := by
  unfold scan_Lower.f at h
  by_cases h1 : a0.size < 4294967281
  · rw [if_pos h1] at h
    cases h
    exact Go.Proofs.Scn.lower_any a0 w h1
  · rw [if_neg h1] at h; cases h


/-! ### selector_Simple_may: function 52 (by hand) -/
def selector_Simple_may.f (a0_0 : ByteArray) (l0_1 : List ByteArray) (l0_2 : List ByteArray) (a0_3 : Bool) (a0_4 : Bool) : Option Bool := if Go.Proofs.Tok.fitX (a0_0, l0_1, l0_2, a0_3, a0_4) then some (Go.Proofs.Tok.mayV a0_0 l0_1 l0_2 a0_3 a0_4) else none
theorem selector_Simple_may.calls (a0_0 : ByteArray) (A0_1 : Option Addr) (c0_1 : Nat) (l0_1 : List ByteArray) (A0_2 : Option Addr) (c0_2 : Nat) (l0_2 : List ByteArray) (a0_3 : Bool) (a0_4 : Bool) (r : Bool) (w : World) (hr0_1 : Kd.C Kd.string w A0_1 l0_1.length l0_1) (hc0_1 : l0_1.length ≤ c0_1) (hr0_2 : Kd.C Kd.string w A0_2 l0_2.length l0_2) (hc0_2 : l0_2.length ≤ c0_2) (h : selector_Simple_may.f a0_0 l0_1 l0_2 a0_3 a0_4 = some r) :
    Calls Tryz.prog 52 #[.agg #[.string a0_0, .slice A0_1 l0_1.length c0_1, .slice A0_2 l0_2.length c0_2, .bool a0_3, .bool a0_4]] w fun e w' => e = .returned (.bool r) ∧ Below w.heap.size w w' := by
  unfold selector_Simple_may.f at h
  by_cases h1 : Go.Proofs.Tok.fitX (a0_0, l0_1, l0_2, a0_3, a0_4)
  · rw [if_pos h1] at h
    cases h
    exact Go.Proofs.Tok.may_any a0_0 A0_1 c0_1 l0_1 A0_2 c0_2 l0_2 a0_3 a0_4 w hr0_1 hr0_2 h1.1 h1.2.1 h1.2.2
  · rw [if_neg h1] at h; cases h


/-! ### strings_IndexAny: function 101 (by hand) -/
def strings_IndexAny.f (a0 : ByteArray) (a1 : ByteArray) : Option Int := if a0.size < 4294967281 then (if 2 ≤ a1.size then (if a1.size ≤ 1000 then (if a1.data.toList.all (fun b => decide (b.toNat < 128)) = true then some (Lib.indexAny a0.data.toList a1.data.toList) else none) else none) else none) else none
theorem strings_IndexAny.calls (a0 : ByteArray) (a1 : ByteArray) (r : Int) (w : World) (h : strings_IndexAny.f a0 a1 = some r) :
    Calls Tryz.prog 101 #[.string a0, .string a1] w fun e w' => e = .returned (.int .i64 r) ∧ Below w.heap.size w w' := by
  unfold strings_IndexAny.f at h
  by_cases h1 : a0.size < 4294967281
  · rw [if_pos h1] at h
    by_cases h2 : 2 ≤ a1.size
    · rw [if_pos h2] at h
      by_cases h3 : a1.size ≤ 1000
      · rw [if_pos h3] at h
        by_cases h4 : a1.data.toList.all (fun b => decide (b.toNat < 128)) = true
        · rw [if_pos h4] at h
          cases h
          exact Go.Proofs.ShX.xIndexAny Tryz.lays153 (by kernel_rfl) a0 a1 w h1 h2 h3 (fun j b hb => of_decide_eq_true (List.all_eq_true.1 h4 b (List.mem_of_getElem? hb)))
        · rw [if_neg h4] at h; cases h
      · rw [if_neg h3] at h; cases h
    · rw [if_neg h2] at h; cases h
  · rw [if_neg h1] at h; cases h


/-! ### selector_marked: function 86 -/
def selector_marked.l0 : Nat → ByteArray → List ByteArray → Option (List ByteArray)
  | 0, _, _ => none
  | k + 1, x0, x3 => if 0 ≤ (mn 1 (x0.size : Int)) then (if (mn 1 (x0.size : Int)) ≤ (x0.size : Int) then ((strings_IndexAny.f (x0.extract ((mn 1 (x0.size : Int)) : Int).toNat x0.size) (⟨#[35, 46, 58]⟩ : ByteArray)).bind fun t101 => (if t101 < 0 then (if x3.length < 8796093022208 then (some (x3 ++ [x0])) else (none)) else (if 0 ≤ (wrap64 (t101 + 1)) then (if (wrap64 (t101 + 1)) ≤ (x0.size : Int) then (if x3.length < 8796093022208 then (selector_marked.l0 k (x0.extract ((wrap64 (t101 + 1)) : Int).toNat x0.size) (x3 ++ [x0.extract 0 ((wrap64 (t101 + 1)) : Int).toNat])) else (none)) else (none)) else (none)))) else (none)) else (none)
def selector_marked.f (k : Nat) (a0 : ByteArray) : Option (List ByteArray) := selector_marked.l0 k a0 ([] : List ByteArray)
theorem selector_marked.mono_l : ∀ k, (∀ y0 y1, LeO (selector_marked.l0 k y0 y1) (selector_marked.l0 (k + 1) y0 y1))
  | 0 => fun _ _ r h => by simp [selector_marked.l0] at h
  | k + 1 => by
    have ih0 := selector_marked.mono_l k
    · intro y0 y1
      unfold selector_marked.l0
      repeat' first
      | (with_reducible exact ih0 _ _)
      | (with_reducible exact LeO.refl _)
      | (with_reducible exact LeO.none _)
      | (with_reducible refine LeO.ite ?_ ?_)
      | (with_reducible refine LeO.bind ?_ (fun _ => ?_))
      | exact ih0 _ _
      | exact LeO.none _
      | refine LeO.ite ?_ ?_
      | refine LeO.bind ?_ (fun _ => ?_)
theorem selector_marked.mono : ∀ a0 k, LeO (selector_marked.f k a0) (selector_marked.f (k + 1) a0) := by
  intro a0 k
  have ih0 := selector_marked.mono_l k
  unfold selector_marked.f
  repeat' first
      | (with_reducible exact ih0 _ _)
      | (with_reducible exact LeO.refl _)
      | (with_reducible exact LeO.none _)
      | (with_reducible refine LeO.ite ?_ ?_)
      | (with_reducible refine LeO.bind ?_ (fun _ => ?_))
      | exact ih0 _ _
      | exact LeO.none _
      | refine LeO.ite ?_ ?_
      | refine LeO.bind ?_ (fun _ => ?_)
def selector_marked.T5 : Bool × List (List Nat × List Nat) := (true, [([], []), ([], []), ([], []), ([2], [2]), ([1, 3], [1, 3]), ([4], [4]), ([0, 5], [0, 5]), ([], []), ([], []), ([8], [8]), ([7, 9], [7, 9]), ([6, 6, 0, 1, 2, 3, 4, 5, 6], [0, 6]), ([10, 11, 0, 1, 2, 3, 4, 5, 6, 7, 8, 9, 10, 11], [1, 7, 10])])
def selector_marked.B5 : List Nat := [0, 0, 0, 4, 14, 30, 63, 0, 0, 256, 896, 127, 4095]
theorem selector_marked.tab5 : rtab .any (opsOf Tryz.f86 5) = selector_marked.T5 := by kernel_rfl
theorem selector_marked.bits5 : waitsOk selector_marked.T5.2 selector_marked.B5 = true := by kernel_rfl
set_option maxHeartbeats 8000000 in
set_option maxRecDepth 100000 in
theorem selector_marked.calls (k : Nat) (a0 : ByteArray) (r : List ByteArray) (w : World) (h : selector_marked.f k a0 = some r) :
    Calls Tryz.prog 86 #[.string a0] w fun e w' => ∃ v0_ : Value, e = .returned (v0_) ∧ Kd.R Kd.string 9 w' w.heap.size (fun _ => True) v0_ r ∧ Below w.heap.size w w' := by
  have HB := Aside0.mk (Below.refl w.heap.size w)
  have H : (selector_marked.l0 k a0 ([] : List ByteArray)) = some r := h
  clear h
  have H' := Aside0.mk H
  clear H
  go_enter Tryz.func86, Tryz.ntmps86
  go_wp2
  go_loopg [0, 3] k (fun kq v0 v3 w' => ∃ (x0_1 : ByteArray) (x3_1 : List ByteArray), v0 = .string x0_1 ∧ Aside0 (selector_marked.l0 kq x0_1 x3_1 = some r) ∧ Aside0 (kq ≤ k) ∧ Aside0 (Kd.R Kd.string 9 w' w.heap.size (fun _ => True) v3 x3_1) ∧ Aside0 (Below w.heap.size w w'))
  case atStart => exact ⟨(a0), (([] : List ByteArray)), (by first | rfl), H', ⟨Nat.le_refl _⟩, ⟨by exact Kd.R_nil _ _ _ _ _⟩, ⟨by exact HB.out⟩⟩
  case round =>
    clear H'
    obtain ⟨x0_1, x3_1, rfl, HA, HK1, HO_3, HB⟩ := hrel
    cases gk with
    | zero => exact absurd HA.out (by simp [selector_marked.l0])
    | succ k1 =>
      have H := HA.out
      clear HA
      simp only [selector_marked.l0] at H
      obtain ⟨ji2, hji2⟩ : ∃ j_ : Int, (mn 1 (x0_1.size : Int)) = j_ := ⟨_, rfl⟩
      replace H : (if 0 ≤ (ji2) then (if (ji2) ≤ (x0_1.size : Int) then ((strings_IndexAny.f (x0_1.extract ((ji2) : Int).toNat x0_1.size) (⟨#[35, 46, 58]⟩ : ByteArray)).bind fun t101 => (if t101 < 0 then (if x3_1.length < 8796093022208 then (some (x3_1 ++ [x0_1])) else (none)) else (if 0 ≤ (wrap64 (t101 + 1)) then (if (wrap64 (t101 + 1)) ≤ (x0_1.size : Int) then (if x3_1.length < 8796093022208 then (selector_marked.l0 k1 (x0_1.extract ((wrap64 (t101 + 1)) : Int).toNat x0_1.size) (x3_1 ++ [x0_1.extract 0 ((wrap64 (t101 + 1)) : Int).toNat])) else (none)) else (none)) else (none)))) else (none)) else (none)) = some r := by first | (rw [hji2] at H; exact H)
      have hji2_ : (if (x0_1.size : Int) < 1 then (x0_1.size : Int) else 1) = ji2 := hji2
      by_cases c3 : 0 ≤ (ji2)
      · rw [if_pos c3] at H
        have c3b0 := eq_true c3
        have c3b1 : decide (0 ≤ (ji2)) = true := decide_eq_true c3
        clear c3
        by_cases c4 : (ji2) ≤ (x0_1.size : Int)
        · rw [if_pos c4] at H
          have c4b0 := eq_true c4
          have c4b1 : decide ((ji2) ≤ (x0_1.size : Int)) = true := decide_eq_true c4
          clear c4
          replace H := Option.bind_eq_some_iff.mp H
          obtain ⟨t101, A50, H⟩ := H
          replace H : (if t101 < 0 then (if x3_1.length < 8796093022208 then (some (x3_1 ++ [x0_1])) else (none)) else (if 0 ≤ (wrap64 (t101 + 1)) then (if (wrap64 (t101 + 1)) ≤ (x0_1.size : Int) then (if x3_1.length < 8796093022208 then (selector_marked.l0 k1 (x0_1.extract ((wrap64 (t101 + 1)) : Int).toNat x0_1.size) (x3_1 ++ [x0_1.extract 0 ((wrap64 (t101 + 1)) : Int).toNat])) else (none)) else (none)) else (none))) = some r := H
          have A5 := Aside0.mk A50
          clear A50
          by_cases c6 : t101 < 0
          · rw [if_pos c6] at H
            have c6b0 : decide (t101 < 0) = true := decide_eq_true c6
            clear c6
            by_cases c7 : x3_1.length < 8796093022208
            · rw [if_pos c7] at H
              have LMc7 := Aside0.mk c7
              clear c7
              obtain ⟨y102, hy102⟩ : ∃ y_ : List ByteArray, y_ = (x3_1 ++ [x0_1]) := ⟨_, rfl⟩
              replace H : (some y102) = some r := by first | (rw [hy102]; with_reducible exact H)
              have Ny102 := Aside0.mk hy102
              clear hy102
              obtain rfl := Option.some.inj H
              go_wp2_with (first | ((with_reducible refine gate_callee (f := 101) rfl ?_); refine goesL_ (some 10) rfl rfl Tryz.func101 (by kernel_rfl) rfl #[.string (x0_1.extract ((ji2) : Int).toNat x0_1.size), .string (⟨#[35, 46, 58]⟩ : ByteArray)] rfl (by (try simp only [List.map_toArray, List.map_cons, List.map_nil]); first | rfl) ?_; (with_reducible refine (strings_IndexAny.calls (x0_1.extract ((ji2) : Int).toNat x0_1.size) (⟨#[35, 46, 58]⟩ : ByteArray) t101 _ A5.out).mono ?_); rintro e w8 ⟨rfl, hb⟩; refine ⟨_, rfl, ?_⟩; have n0_ := Aside0.mk (Kd.R_below HO_3.out hb); have n1_ := Aside0.mk (below_step HB.out hb); clear HO_3; clear HB; have HO_3 := n0_; have HB := n1_; clear n0_ n1_; (try clear hb); (try clear hb2); (try clear hk); (try clear hi)) | ((with_reducible refine gate_builtin (b := .append) (xs := #[.tmp 13, .tmp 15]) rfl ?_); at_builtin; refine Kd.R_append Kd.string (w0 := w) w.heap.size rfl (.tmp 13) (.tmp 15) 76 9 (.string ⟨#[]⟩) 16 rfl Tryz.underlying76 info9 rfl (by decide) (by omega) u3 x3_1 x0_1 [.string x0_1] (fun _ => True) (fun _ => False) rfl rfl ?aP (fun _ hk => hk.elim) ?aF ?aO ?aB ?aS ?aL ?_; (case aP => exact rfl); (case aB => exact HB.out); (case aF => exact (fun _ _ => trivial)); (case aO => exact HO_3.out); (case aS => exact (below_size HB.out)); (case aL => have := LMc7.out; omega); intro v103 w9 ho hb hg hat; rw [← Ny102.out] at ho; have n0_ := Aside0.mk (hb); have n1_ := Aside0.mk (ho); clear HB; clear HO_3; have HB := n0_; have HO104 := n1_; clear n0_ n1_; clear ho hb hg hat))
              go_ret
              exact ⟨_, by first | rfl, by exact HO104.out, by exact HB.out⟩
            · rw [if_neg c7] at H
              exact absurd H (by simp)
          · rw [if_neg c6] at H
            have c6b0 : decide (t101 < 0) = false := decide_eq_false c6
            clear c6
            obtain ⟨ji10, hji10⟩ : ∃ j_ : Int, (wrap64 (t101 + 1)) = j_ := ⟨_, rfl⟩
            replace H : (if 0 ≤ (ji10) then (if (ji10) ≤ (x0_1.size : Int) then (if x3_1.length < 8796093022208 then (selector_marked.l0 k1 (x0_1.extract ((ji10) : Int).toNat x0_1.size) (x3_1 ++ [x0_1.extract 0 ((ji10) : Int).toNat])) else (none)) else (none)) else (none)) = some r := by first | (rw [hji10] at H; exact H)
            (try rw [hji10] at A5)
            have hji10w : (IntKind.i64.wrap (t101 + 1)) = ji10 := (i64_w _).trans hji10
            by_cases c11 : 0 ≤ (ji10)
            · rw [if_pos c11] at H
              have c11b0 := eq_true c11
              have c11b1 : decide (0 ≤ (ji10)) = true := decide_eq_true c11
              clear c11
              by_cases c12 : (ji10) ≤ (x0_1.size : Int)
              · rw [if_pos c12] at H
                have c12b0 := eq_true c12
                have c12b1 : decide ((ji10) ≤ (x0_1.size : Int)) = true := decide_eq_true c12
                clear c12
                by_cases c13 : x3_1.length < 8796093022208
                · rw [if_pos c13] at H
                  have LMc13 := Aside0.mk c13
                  clear c13
                  obtain ⟨y105, hy105⟩ : ∃ y_ : List ByteArray, y_ = (x3_1 ++ [x0_1.extract 0 ((ji10) : Int).toNat]) := ⟨_, rfl⟩
                  replace H : (selector_marked.l0 k1 (x0_1.extract ((ji10) : Int).toNat x0_1.size) y105) = some r := by first | (rw [hy105]; with_reducible exact H)
                  have Ny105 := Aside0.mk hy105
                  clear hy105
                  have c14b0 := eq_true (of_decide_eq_true (by first | (with_reducible assumption)) : 0 ≤ (ji10))
                  have c15b0 := eq_true (of_decide_eq_true (by first | (with_reducible assumption)) : (ji10) ≤ (x0_1.size : Int))
                  have H' := Aside0.mk H
                  clear H
                  try go_wp2_with (first | ((with_reducible refine gate_callee (f := 101) rfl ?_); refine goesL_ (some 10) rfl rfl Tryz.func101 (by kernel_rfl) rfl #[.string (x0_1.extract ((ji2) : Int).toNat x0_1.size), .string (⟨#[35, 46, 58]⟩ : ByteArray)] rfl (by (try simp only [List.map_toArray, List.map_cons, List.map_nil]); first | rfl) ?_; (with_reducible refine (strings_IndexAny.calls (x0_1.extract ((ji2) : Int).toNat x0_1.size) (⟨#[35, 46, 58]⟩ : ByteArray) t101 _ A5.out).mono ?_); rintro e w16 ⟨rfl, hb⟩; refine ⟨_, rfl, ?_⟩; have n0_ := Aside0.mk (Kd.R_below HO_3.out hb); have n1_ := Aside0.mk (below_step HB.out hb); clear HO_3; clear HB; have HO_3 := n0_; have HB := n1_; clear n0_ n1_; (try clear hb); (try clear hb2); (try clear hk); (try clear hi)))
                  have n0_ := Aside0.mk (Kd.R_drew HO_3.out)
                  have n1_ := Aside0.mk (below_drew1 HB.out)
                  clear HO_3
                  clear HB
                  have HO_3 := n0_
                  have HB := n1_
                  clear n0_ n1_
                  refine start_ (n := 13) (S := fun w' => True) (ds := []) #[false, false, false, false, false, false, false, false, false, false, false, false, false] (by kernel_rfl) rfl rfl trivial (fun hHeld => ?_); refine with_tabW selector_marked.tab5 selector_marked.bits5 (fun HT_ HW_ => ?_)
                  generalize w16.drew = w17 at HO_3 HB hHeld ⊢
                  refine pure_ (i := 0) (N := some 17) (v := ?_) (a' := ?_) #[true, false, false, false, false, false, false, false, false, false, false, false, false] rfl rfl (any_of HT_.out (by kernel_rfl)) (fun _ _ _ h => h) (Or.inl ⟨by rfl, ?_⟩) ?_ ?_
                  rotate_left
                  · intro w'
                    go_simp
                    with_reducible rfl
                  rotate_left
                  · simp only [Act.put, List.setIfInBounds_toArray, List.set_cons_zero, List.set_cons_succ, i64_w, i32_w]
                    rfl
                  refine pure_ (i := 1) (N := some 18) (v := ?_) (a' := ?_) #[true, true, false, false, false, false, false, false, false, false, false, false, false] rfl rfl (any_of HT_.out (by kernel_rfl)) (fun _ _ _ h => h) (Or.inl ⟨by rfl, ?_⟩) ?_ ?_
                  rotate_left
                  · intro w'
                    go_simp
                    with_reducible rfl
                  rotate_left
                  · simp only [Act.put, List.setIfInBounds_toArray, List.set_cons_zero, List.set_cons_succ, i64_w, i32_w]
                    rfl
                  refine pure_ (i := 2) (N := some 19) (v := ?_) (a' := ?_) #[true, true, true, false, false, false, false, false, false, false, false, false, false] rfl rfl (any_of HT_.out (by kernel_rfl)) (fun _ _ _ h => h) (Or.inl ⟨by rfl, ?_⟩) ?_ ?_
                  rotate_left
                  · intro w'
                    go_simp
                    with_reducible rfl
                  rotate_left
                  · simp only [Act.put, List.setIfInBounds_toArray, List.set_cons_zero, List.set_cons_succ, i64_w, i32_w]
                    rfl
                  refine pure_ (i := 3) (N := some 20) (v := ?_) (a' := ?_) #[true, true, true, true, false, false, false, false, false, false, false, false, false] rfl rfl (any_of HT_.out (by kernel_rfl)) (fun _ _ _ h => h) (Or.inl ⟨by rfl, ?_⟩) ?_ ?_
                  rotate_left
                  · intro w'
                    go_simp
                    with_reducible rfl
                  rotate_left
                  · simp only [Act.put, List.setIfInBounds_toArray, List.set_cons_zero, List.set_cons_succ, i64_w, i32_w]
                    rfl
                  refine pure_ (i := 4) (N := some 21) (v := ?_) (a' := ?_) #[true, true, true, true, true, false, false, false, false, false, false, false, false] rfl rfl (any_of HT_.out (by kernel_rfl)) (fun _ _ _ h => h) (Or.inl ⟨by rfl, ?_⟩) ?_ ?_
                  rotate_left
                  · intro w'
                    go_simp
                    with_reducible rfl
                  rotate_left
                  · simp only [Act.put, List.setIfInBounds_toArray, List.set_cons_zero, List.set_cons_succ, i64_w, i32_w]
                    rfl
                  refine pure_ (i := 7) (N := some 24) (v := ?_) (a' := ?_) #[true, true, true, true, true, false, false, true, false, false, false, false, false] rfl rfl (any_of HT_.out (by kernel_rfl)) (fun _ _ _ h => h) (Or.inl ⟨by rfl, ?_⟩) ?_ ?_
                  rotate_left
                  · intro w'
                    go_simp
                    with_reducible rfl
                  rotate_left
                  · simp only [Act.put, List.setIfInBounds_toArray, List.set_cons_zero, List.set_cons_succ, i64_w, i32_w]
                    rfl
                  refine pure_ (i := 8) (N := some 25) (v := ?_) (a' := ?_) #[true, true, true, true, true, false, false, true, true, false, false, false, false] rfl rfl (any_of HT_.out (by kernel_rfl)) (fun _ _ _ h => h) (Or.inl ⟨by rfl, ?_⟩) ?_ ?_
                  rotate_left
                  · intro w'
                    go_simp
                    with_reducible rfl
                  rotate_left
                  · simp only [Act.put, List.setIfInBounds_toArray, List.set_cons_zero, List.set_cons_succ, i64_w, i32_w]
                    rfl
                  refine pure_ (i := 9) (N := some 26) (v := ?_) (a' := ?_) #[true, true, true, true, true, false, false, true, true, true, false, false, false] rfl rfl (any_of HT_.out (by kernel_rfl)) (fun _ _ _ h => h) (Or.inl ⟨by rfl, ?_⟩) ?_ ?_
                  rotate_left
                  · intro w'
                    go_simp
                    with_reducible rfl
                  rotate_left
                  · simp only [Act.put, List.setIfInBounds_toArray, List.set_cons_zero, List.set_cons_succ, i64_w, i32_w]
                    rfl
                  refine pure_ (i := 10) (N := some 27) (v := ?_) (a' := ?_) #[true, true, true, true, true, false, false, true, true, true, true, false, false] rfl rfl (any_of HT_.out (by kernel_rfl)) (fun _ _ _ h => h) (Or.inl ⟨by rfl, ?_⟩) ?_ ?_
                  rotate_left
                  · intro w'
                    go_simp
                    with_reducible rfl
                  rotate_left
                  · simp only [Act.put, List.setIfInBounds_toArray, List.set_cons_zero, List.set_cons_succ, i64_w, i32_w]
                    rfl
                  refine one_ (i := 5) (N := some 22) #[true, true, true, true, true, true, false, true, true, true, true, false, false] rfl rfl (one_of HT_.out (by kernel_rfl)) (by decide) (fun K hK => ?_)
                  refine value_ (w1 := ?_) (v := ?_) (by rfl) rfl ?_ ?_
                  rotate_left 2
                  · go_simp
                    constructor
                    · rfl
                    · rfl
                  refine hK.out _ _ trivial (fun hHeld => ?_)
                  clear hK K
                  refine norm_ (a' := ?_) ?_ ?_
                  rotate_left
                  · show Act.put _ (some 22) _ = _
                    simp only [Act.put, List.setIfInBounds_toArray, List.set_cons_zero, List.set_cons_succ, i64_w, i32_w]
                    rfl
                  refine one_ (i := 6) (N := some 23) #[true, true, true, true, true, true, true, true, true, true, true, false, false] rfl rfl (one_of HT_.out (by kernel_rfl)) (by decide) (fun K hK => ?_)
                  refine Kd.R_append_step Kd.string (w0 := w) w.heap.size (by rfl) (.tmp 17) (.tmp 22) 76 9 (.string ⟨#[]⟩) 16 rfl Tryz.underlying76 info9 rfl (by decide) (by omega) u3 x3_1 (x0_1.extract 0 ((ji10) : Int).toNat) [.string (x0_1.extract 0 ((ji10) : Int).toNat)] (fun _ => True) (fun _ => False) rfl rfl ?aP (fun _ hk => hk.elim) ?aF ?aO ?aB ?aS ?aL ?_
                  (case aP => exact rfl)
                  (case aB => exact HB.out)
                  (case aF => exact (fun _ _ => trivial))
                  (case aO => exact HO_3.out)
                  (case aS => exact (below_size HB.out))
                  (case aL => have := LMc13.out; omega)
                  intro v106 w18 ho hb hg hat
                  rw [← Ny105.out] at ho
                  have n0_ := Aside0.mk (hb)
                  have n1_ := Aside0.mk (ho)
                  clear HB
                  clear HO_3
                  have HB := n0_
                  have HO107 := n1_
                  clear n0_ n1_
                  clear ho hb hg hat
                  refine hK.out _ _ trivial (fun hHeld => ?_)
                  clear hK K
                  refine norm_ (a' := ?_) ?_ ?_
                  rotate_left
                  · show Act.put _ (some 23) _ = _
                    simp only [Act.put, List.setIfInBounds_toArray, List.set_cons_zero, List.set_cons_succ, i64_w, i32_w]
                    rfl
                  refine pure_ (i := 11) (N := some 3) (v := ?_) (a' := ?_) #[true, true, true, true, true, true, true, true, true, true, true, true, false] rfl rfl (any_of HT_.out (by kernel_rfl)) (fun _ _ _ h => h) (Or.inl ⟨by rfl, ?_⟩) ?_ ?_
                  rotate_left
                  · intro w'
                    go_simp
                    with_reducible rfl
                  rotate_left
                  · simp only [Act.put, List.setIfInBounds_toArray, List.set_cons_zero, List.set_cons_succ, i64_w, i32_w]
                    rfl
                  refine pure_ (i := 12) (N := some 0) (v := ?_) (a' := ?_) #[true, true, true, true, true, true, true, true, true, true, true, true, true] rfl rfl (any_of HT_.out (by kernel_rfl)) (fun _ _ _ h => h) (Or.inl ⟨by rfl, ?_⟩) ?_ ?_
                  rotate_left
                  · intro w'
                    go_simp
                    with_reducible rfl
                  rotate_left
                  · simp only [Act.put, List.setIfInBounds_toArray, List.set_cons_zero, List.set_cons_succ, i64_w, i32_w]
                    rfl
                  refine done_ (done_of HT_.out (by kernel_rfl)) ?_
                  try go_wp2
                  go_roundg k1
                  case measure => have := HK1.out; omega
                  case rel => exact ⟨(x0_1.extract ((ji10) : Int).toNat x0_1.size), (y105), (by first | rfl), H', ⟨by have := HK1.out; omega⟩, ⟨by exact HO107.out⟩, ⟨by exact HB.out⟩⟩
                · rw [if_neg c13] at H
                  exact absurd H (by simp)
              · rw [if_neg c12] at H
                exact absurd H (by simp)
            · rw [if_neg c11] at H
              exact absurd H (by simp)
        · rw [if_neg c4] at H
          exact absurd H (by simp)
      · rw [if_neg c3] at H
        exact absurd H (by simp)

/-! ### strings_IndexByte: function 87 (by hand) -/
def strings_IndexByte.f (a0 : ByteArray) (a1 : Int) : Option Int := some (Lib.indexByte a0.data.toList a1.toNat.toUInt8)
theorem strings_IndexByte.calls (a0 : ByteArray) (a1 : Int) (r : Int) (w : World) (h : strings_IndexByte.f a0 a1 = some r) :
    Calls Tryz.prog 87 #[.string a0, .int .u8 a1] w fun e w' => e = .returned (.int .i64 r) ∧ Below w.heap.size w w' := by
  unfold strings_IndexByte.f at h
  cases h
  exact (Tryz.strings_IndexByte a0 a1 w).mono fun e w' ⟨he, hn⟩ => ⟨he, by rw [hn]; exact Below.refl _ _⟩


end Go.Proofs.YtolfpgccebdlpaaGreatDoor.HT
