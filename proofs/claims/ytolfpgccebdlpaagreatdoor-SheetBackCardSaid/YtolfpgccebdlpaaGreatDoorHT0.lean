/- Contracts proved by walking their text; no condition beside those that each theorem states. -/
import Derived.Test.YtolfpgccebdlpaaGreatDoorProg
import Derived.Below
import Derived.Deep.Draws
import Derived.Deep.AppendLies
import Derived.Maps.AppendAt
import Derived.OwnWalk
import Derived.Laws.BytesArg
import Derived.Laws.MakeOwn
import Derived.Laws.OwnMore
import Derived.Deep.OwnRows
import Derived.Tactics
import Derived.Lib.ConvBytes
import Derived.Laws.Slices
import Derived.WalkKit
import Derived.KernelRfl
import Derived.RowKit3
import Derived.Deep.LoopGhost
import Derived.Deep.QuietTactic
import Derived.BigQuiet
import Derived.WideLaws
import Derived.Deep.DeepCutAuto
import Derived.Deep.CutBlock
import Derived.Deep.RegionHeld3
import Derived.Laws.Rows
import Derived.Lib.AppendStr
import Derived.ArgAppend
import Derived.Laws.IdiomCopy
import Derived.OrdersHeld
import Derived.Laws.BitsLemmas
import Derived.RowKit
import Derived.Test.YtolfpgccebdlpaaGreatDoorMay
import Derived.Test.YtolfpgccebdlpaaGreatDoorShI
import Derived.Test.YtolfpgccebdlpaaGreatDoorShS
import Derived.Test.YtolfpgccebdlpaaGreatDoorScO
import Derived.Test.YtolfpgccebdlpaaGreatDoorVmB
import Derived.Test.YtolfpgccebdlpaaGreatDoorWWords
import Derived.Test.YtolfpgccebdlpaaGreatDoorWLast
import Derived.Test.YtolfpgccebdlpaaGreatDoorWTab
import Derived.Test.YtolfpgccebdlpaaGreatDoorWFour
import Derived.Test.YtolfpgccebdlpaaGreatDoorWEqStruct
namespace Go.Proofs.YtolfpgccebdlpaaGreatDoor.HT
open Go.RowKit Go.Proofs.YtolfpgccebdlpaaGreatDoorW.PrintWords Go.Proofs.YtolfpgccebdlpaaGreatDoorW.PrintLast Go.Proofs.YtolfpgccebdlpaaGreatDoorW.PrintMore
attribute [local go_sem] max2_int min2_int max_two min_two max_three min_three max_four min_four   -- for this text's walks alone
set_option linter.unusedVariables false
set_option linter.unusedSimpArgs false



theorem info4 : (Tryz.prog.info? 4).map (fun i => (i.zero, i.size, i.bytes)) = some (some (.bool false), 1, 1) := by kernel_rfl
theorem info9 : (Tryz.prog.info? 9).map (fun i => (i.zero, i.size, i.bytes)) = some (some (.string ⟨#[]⟩), 1, 16) := by kernel_rfl
theorem info25 : (Tryz.prog.info? 25).map (fun i => (i.zero, i.size, i.bytes)) = some (some (.agg #[(.slice none 0 0), (.slice none 0 0)]), 2, 48) := by kernel_rfl
theorem info80 : (Tryz.prog.info? 80).map (fun i => (i.zero, i.size, i.bytes)) = some (some (.agg #[(.string ⟨#[]⟩), (.slice none 0 0), (.slice none 0 0), (.bool false), (.bool false)]), 5, 72) := by kernel_rfl
theorem info111 : (Tryz.prog.info? 111).map (fun i => (i.zero, i.size, i.bytes)) = some (some (.agg #[(.int .i64 0), (.int .i64 0), (.int .i64 0), (.bool false)]), 4, 32) := by kernel_rfl
theorem info115 : (Tryz.prog.info? 115).map (fun i => (i.zero, i.size, i.bytes)) = some (some (.agg #[(.slice none 0 0), (.slice none 0 0)]), 2, 48) := by kernel_rfl
theorem info119 : (Tryz.prog.info? 119).map (fun i => (i.zero, i.size, i.bytes)) = some (some (.agg #[(.string ⟨#[]⟩), (.string ⟨#[]⟩)]), 2, 32) := by kernel_rfl
theorem info123 : (Tryz.prog.info? 123).map (fun i => (i.zero, i.size, i.bytes)) = some (some (.agg #[(.int .i64 0), (.int .i64 0), (.int .i64 0), (.bool false)]), 4, 32) := by kernel_rfl
-- the values' own types
/-! #### struct type 80 -/
structure S80 where
  f0 : ByteArray
  f1 : (List ByteArray)
  f2 : (List ByteArray)
  f3 : Bool
  f4 : Bool
def z80 : S80 := ⟨(⟨#[]⟩ : ByteArray), ([] : List ByteArray), ([] : List ByteArray), false, false⟩
def k80 : Kd S80 := Kd.iso (Kd.pair Kd.string (Kd.pair (Kd.slice 9 Kd.string) (Kd.pair (Kd.slice 9 Kd.string) (Kd.pair Kd.bool Kd.bool)))) (fun x : S80 => (x.f0, x.f1, x.f2, x.f3, x.f4))
theorem k80_mkM (w : World) (base : Nat) (ok : Nat → Prop) (x : S80) {v1 : Value} (g1 : Kd.string.R 9 w base ok v1 x.f1) {v2 : Value} (g2 : Kd.string.R 9 w base ok v2 x.f2) : k80.M w base ok x [.string x.f0, v1, v2, .bool x.f3, .bool x.f4] := ⟨[.string x.f0], [v1, v2, .bool x.f3, .bool x.f4], rfl, rfl, ⟨[v1], [v2, .bool x.f3, .bool x.f4], rfl, ⟨v1, rfl, g1⟩, ⟨[v2], [.bool x.f3, .bool x.f4], rfl, ⟨v2, rfl, g2⟩, ⟨[.bool x.f3], [.bool x.f4], rfl, rfl, rfl⟩⟩⟩⟩
/-! #### struct type 25 -/
structure S25 where
  f0 : (List S80)
  f1 : (List Bool)
def k25 : Kd S25 := Kd.iso (Kd.pair (Kd.slice 80 k80) (Kd.slice 4 Kd.bool)) (fun x : S25 => (x.f0, x.f1))
theorem k25_open {w : World} {x : S25} {cs : List Value} (h : k25.K w x cs) : ∃ A0 c0 A1 c1, cs = [.slice A0 x.f0.length c0, .slice A1 x.f1.length c1] ∧ x.f0.length ≤ c0 ∧ k80.C w A0 x.f0.length x.f0 ∧ x.f1.length ≤ c1 ∧ Kd.bool.C w A1 x.f1.length x.f1 := by
  obtain ⟨_, _, rfl, ⟨A0, c0, rfl, l0, g0⟩, ⟨A1, c1, rfl, l1, g1⟩⟩ := h
  exact ⟨A0, c0, A1, c1, rfl, l0, g0, l1, g1⟩
theorem k25_mkM (w : World) (base : Nat) (ok : Nat → Prop) (x : S25) {v0 : Value} (g0 : k80.R 80 w base ok v0 x.f0) {v1 : Value} (g1 : Kd.bool.R 4 w base ok v1 x.f1) : k25.M w base ok x [v0, v1] := ⟨[v0], [v1], rfl, ⟨v0, rfl, g0⟩, ⟨v1, rfl, g1⟩⟩
/-! #### struct type 109 -/
structure S109 where
  f0 : Int
  f1 : Int
def z109 : S109 := ⟨(0 : Int), (0 : Int)⟩
def k109 : Kd S109 := Kd.iso (Kd.pair (Kd.int .i64) (Kd.int .i64)) (fun x : S109 => (x.f0, x.f1))
theorem k109_open {w : World} {x : S109} {cs : List Value} (h : k109.K w x cs) : cs = [.int .i64 x.f0, .int .i64 x.f1] := by
  obtain ⟨_, _, rfl, rfl, rfl⟩ := h
  exact rfl
theorem k109_mkM (w : World) (base : Nat) (ok : Nat → Prop) (x : S109)  : k109.M w base ok x [.int .i64 x.f0, .int .i64 x.f1] := ⟨[.int .i64 x.f0], [.int .i64 x.f1], rfl, rfl, rfl⟩
/-! #### struct type 111 -/
structure S111 where
  f0 : Int
  f1 : S109
  f2 : Bool
def z111 : S111 := ⟨(0 : Int), z109, false⟩
def k111 : Kd S111 := Kd.iso (Kd.pair (Kd.int .i64) (Kd.pair k109 Kd.bool)) (fun x : S111 => (x.f0, x.f1, x.f2))
theorem k111_open {w : World} {x : S111} {cs : List Value} (h : k111.K w x cs) : cs = [.int .i64 x.f0, .int .i64 x.f1.f0, .int .i64 x.f1.f1, .bool x.f2] := by
  obtain ⟨_, _, rfl, rfl, ⟨_, _, rfl, s1, rfl⟩⟩ := h
  obtain rfl := k109_open s1
  exact rfl
def rd_T111 (xs : List S111) (i : Int) : S111 := xs.getD i.toNat z111
theorem at_T111 {w : World} {A : Option Addr} {n : Nat} {xs : List S111} (h : Kd.C k111 w A n xs) (i : Int) (h0 : 0 ≤ i) (h1 : i < n) : ∃ ad , A = some ad ∧ w.cell? (ad.add (i.toNat * 4)) = some (.int .i64 (rd_T111 xs i).f0) ∧ w.cell? ⟨(ad.add (i.toNat * 4)).block, (ad.add (i.toNat * 4)).off + 1, none⟩ = some (.int .i64 (rd_T111 xs i).f1.f0) ∧ w.cell? ⟨(ad.add (i.toNat * 4)).block, (ad.add (i.toNat * 4)).off + 2, none⟩ = some (.int .i64 (rd_T111 xs i).f1.f1) ∧ w.cell? ⟨(ad.add (i.toNat * 4)).block, (ad.add (i.toNat * 4)).off + 3, none⟩ = some (.bool (rd_T111 xs i).f2) := by
  obtain ⟨ad, c, e, _, hK, hc0⟩ := Kd.C_get h z111 i h0 h1
  have hc : ∀ j u, c[j]? = some u → w.cell? (ad.add (i.toNat * 4 + j)) = some u := hc0
  obtain rfl := k111_open hK
  exact ⟨ad, e, hc 0 _ rfl, by rw [← add_field _ _ 1 (by omega)]; exact hc 1 _ rfl, by rw [← add_field _ _ 2 (by omega)]; exact hc 2 _ rfl, by rw [← add_field _ _ 3 (by omega)]; exact hc 3 _ rfl⟩

/-! #### struct type 119 -/
structure S119 where
  f0 : ByteArray
  f1 : ByteArray
def z119 : S119 := ⟨(⟨#[]⟩ : ByteArray), (⟨#[]⟩ : ByteArray)⟩
def k119 : Kd S119 := Kd.iso (Kd.pair Kd.string Kd.string) (fun x : S119 => (x.f0, x.f1))
theorem k119_open {w : World} {x : S119} {cs : List Value} (h : k119.K w x cs) : cs = [.string x.f0, .string x.f1] := by
  obtain ⟨_, _, rfl, rfl, rfl⟩ := h
  exact rfl
theorem k119_mkM (w : World) (base : Nat) (ok : Nat → Prop) (x : S119)  : k119.M w base ok x [.string x.f0, .string x.f1] := ⟨[.string x.f0], [.string x.f1], rfl, rfl, rfl⟩
def rd_T119 (xs : List S119) (i : Int) : S119 := xs.getD i.toNat z119
theorem at_T119 {w : World} {A : Option Addr} {n : Nat} {xs : List S119} (h : Kd.C k119 w A n xs) (i : Int) (h0 : 0 ≤ i) (h1 : i < n) : ∃ ad , A = some ad ∧ w.cell? (ad.add (i.toNat * 2)) = some (.string (rd_T119 xs i).f0) ∧ w.cell? ⟨(ad.add (i.toNat * 2)).block, (ad.add (i.toNat * 2)).off + 1, none⟩ = some (.string (rd_T119 xs i).f1) := by
  obtain ⟨ad, c, e, _, hK, hc0⟩ := Kd.C_get h z119 i h0 h1
  have hc : ∀ j u, c[j]? = some u → w.cell? (ad.add (i.toNat * 2 + j)) = some u := hc0
  obtain rfl := k119_open hK
  exact ⟨ad, e, hc 0 _ rfl, by rw [← add_field _ _ 1 (by omega)]; exact hc 1 _ rfl⟩

/-! #### struct type 115 -/
structure S115 where
  f0 : (List S25)
  f1 : (List S111)
def k115 : Kd S115 := Kd.iso (Kd.pair (Kd.slice 25 k25) (Kd.slice 111 k111)) (fun x : S115 => (x.f0, x.f1))
theorem k115_open {w : World} {x : S115} {cs : List Value} (h : k115.K w x cs) : ∃ A0 c0 A1 c1, cs = [.slice A0 x.f0.length c0, .slice A1 x.f1.length c1] ∧ x.f0.length ≤ c0 ∧ k25.C w A0 x.f0.length x.f0 ∧ x.f1.length ≤ c1 ∧ k111.C w A1 x.f1.length x.f1 := by
  obtain ⟨_, _, rfl, ⟨A0, c0, rfl, l0, g0⟩, ⟨A1, c1, rfl, l1, g1⟩⟩ := h
  exact ⟨A0, c0, A1, c1, rfl, l0, g0, l1, g1⟩
theorem k115_mkM (w : World) (base : Nat) (ok : Nat → Prop) (x : S115) {v0 : Value} (g0 : k25.R 25 w base ok v0 x.f0) {v1 : Value} (g1 : k111.R 111 w base ok v1 x.f1) : k115.M w base ok x [v0, v1] := ⟨[v0], [v1], rfl, ⟨v0, rfl, g0⟩, ⟨v1, rfl, g1⟩⟩
/-! #### struct type 123 -/
structure S123 where
  f0 : Int
  f1 : S109
  f2 : Bool
def k123 : Kd S123 := Kd.iso (Kd.pair (Kd.int .i64) (Kd.pair k109 Kd.bool)) (fun x : S123 => (x.f0, x.f1, x.f2))
theorem k123_mkM (w : World) (base : Nat) (ok : Nat → Prop) (x : S123)  : k123.M w base ok x [.int .i64 x.f0, .int .i64 x.f1.f0, .int .i64 x.f1.f1, .bool x.f2] := ⟨[.int .i64 x.f0], [.int .i64 x.f1.f0, .int .i64 x.f1.f1, .bool x.f2], rfl, rfl, ⟨[.int .i64 x.f1.f0, .int .i64 x.f1.f1], [.bool x.f2], rfl, (k109_mkM w base ok x.f1 ), rfl⟩⟩
end Go.Proofs.YtolfpgccebdlpaaGreatDoor.HT
namespace Go.Proofs.YtolfpgccebdlpaaGreatDoor.HT
open Go.RowKit Go.Proofs.YtolfpgccebdlpaaGreatDoorW.PrintWords Go.Proofs.YtolfpgccebdlpaaGreatDoorW.PrintLast Go.Proofs.YtolfpgccebdlpaaGreatDoorW.PrintMore
attribute [local go_sem] max2_int min2_int max_two min_two max_three min_three max_four min_four   -- for this text's walks alone
set_option linter.unusedVariables false
set_option linter.unusedSimpArgs false

/-! ### scan_Words: function 39 (by hand) -/
def scan_Words.f (a0 : ByteArray) : Option (List ByteArray) := if a0.size < 4294967281 then some (Go.Proofs.Scn.wordsV a0) else none
theorem scan_Words.calls (a0 : ByteArray) (r : List ByteArray) (w : World) (h : scan_Words.f a0 = some r) :
    Calls Tryz.prog 39 #[.string a0] w fun e w' => ∃ v0_ : Value, e = .returned (v0_) ∧ Kd.R Kd.string 9 w' w.heap.size (fun _ => True) v0_ r ∧ Below w.heap.size w w' := by
  unfold scan_Words.f at h
  by_cases h1 : a0.size < 4294967281
  · rw [if_pos h1] at h
    cases h
    exact Go.Proofs.Scn.words_any a0 w h1
  · rw [if_neg h1] at h; cases h


/-! ### strings_ReplaceAll: function 40 (by hand) -/
def strings_ReplaceAll.f (a0 : ByteArray) (a1 : ByteArray) (a2 : ByteArray) : Option ByteArray := if a0.size < 4294967281 ∧ 1 ≤ a1.size ∧ a0.size + Lib.countB a0 a1 * a2.size ≤ 140737488355328 then some ⟨(Lib.replaceAll a0.data.toList a1.data.toList a2.data.toList).toArray⟩ else none
theorem strings_ReplaceAll.calls (a0 : ByteArray) (a1 : ByteArray) (a2 : ByteArray) (r : ByteArray) (w : World) (h : strings_ReplaceAll.f a0 a1 a2 = some r) (hmx : Go.Proofs.Sht.Env w) :
    Calls Tryz.prog 40 #[.string a0, .string a1, .string a2] w fun e w' => e = .returned (.string r) ∧ Below w.heap.size w w' := by
  unfold strings_ReplaceAll.f at h
  by_cases h1 : a0.size < 4294967281 ∧ 1 ≤ a1.size ∧ a0.size + Lib.countB a0 a1 * a2.size ≤ 140737488355328
  · rw [if_pos h1] at h
    cases h
    exact Go.Proofs.Tok.repl_any a0 a1 a2 w hmx.1 h1.1 h1.2.1 h1.2.2
  · rw [if_neg h1] at h; cases h


/-! ### scan_Lower: function 41 (by hand) -/
def scan_Lower.f (a0 : ByteArray) : Option ByteArray := if a0.size < 4294967281 then some (Go.Proofs.Scn.lowV a0) else none
theorem scan_Lower.calls (a0 : ByteArray) (r : ByteArray) (w : World) (h : scan_Lower.f a0 = some r) :
    Calls Tryz.prog 41 #[.string a0] w fun e w' => e = .returned (.string r) ∧ Below w.heap.size w w' := by
  unfold scan_Lower.f at h
  by_cases h1 : a0.size < 4294967281
  · rw [if_pos h1] at h
    cases h
    exact Go.Proofs.Scn.lower_any a0 w h1
  · rw [if_neg h1] at h; cases h


/-! ### selector_Simple_may: function 52 (by hand) -/
def selector_Simple_may.f (a0_0 : ByteArray) (l0_1 : List ByteArray) (l0_2 : List ByteArray) (a0_3 : Bool) (a0_4 : Bool) : Option Bool := if Go.Proofs.Tok.fitX (a0_0, l0_1, l0_2, a0_3, a0_4) then some (Go.Proofs.Tok.mayV a0_0 l0_1 l0_2 a0_3 a0_4) else none
theorem selector_Simple_may.calls (a0_0 : ByteArray) (A0_1 : Option Addr) (c0_1 : Nat) (l0_1 : List ByteArray) (A0_2 : Option Addr) (c0_2 : Nat) (l0_2 : List ByteArray) (a0_3 : Bool) (a0_4 : Bool) (r : Bool) (w : World) (hr0_1 : Kd.C Kd.string w A0_1 l0_1.length l0_1) (hc0_1 : l0_1.length ≤ c0_1) (hr0_2 : Kd.C Kd.string w A0_2 l0_2.length l0_2) (hc0_2 : l0_2.length ≤ c0_2) (h : selector_Simple_may.f a0_0 l0_1 l0_2 a0_3 a0_4 = some r) :
    Calls Tryz.prog 52 #[.agg #[.string a0_0, .slice A0_1 l0_1.length c0_1, .slice A0_2 l0_2.length c0_2, .bool a0_3, .bool a0_4]] w fun e w' => e = .returned (.bool r) ∧ Below w.heap.size w w' := by
  unfold selector_Simple_may.f at h
  by_cases h1 : Go.Proofs.Tok.fitX (a0_0, l0_1, l0_2, a0_3, a0_4)
  · rw [if_pos h1] at h
    cases h
    exact Go.Proofs.Tok.may_any a0_0 A0_1 c0_1 l0_1 A0_2 c0_2 l0_2 a0_3 a0_4 w hr0_1 hr0_2 h1.1 h1.2.1 h1.2.2
  · rw [if_neg h1] at h; cases h


/-! ### strings_IndexAny: function 101 (by hand) -/
def strings_IndexAny.f (a0 : ByteArray) (a1 : ByteArray) : Option Int := if a0.size < 4294967281 then (if 2 ≤ a1.size then (if a1.size ≤ 1000 then (if a1.data.toList.all (fun b => decide (b.toNat < 128)) = true then some (Lib.indexAny a0.data.toList a1.data.toList) else none) else none) else none) else none
theorem strings_IndexAny.calls (a0 : ByteArray) (a1 : ByteArray) (r : Int) (w : World) (h : strings_IndexAny.f a0 a1 = some r) :
    Calls Tryz.prog 101 #[.string a0, .string a1] w fun e w' => e = .returned (.int .i64 r) ∧ Below w.heap.size w w' := by
  unfold strings_IndexAny.f at h
  by_cases h1 : a0.size < 4294967281
  · rw [if_pos h1] at h
    by_cases h2 : 2 ≤ a1.size
    · rw [if_pos h2] at h
      by_cases h3 : a1.size ≤ 1000
      · rw [if_pos h3] at h
        by_cases h4 : a1.data.toList.all (fun b => decide (b.toNat < 128)) = true
        · rw [if_pos h4] at h
          cases h
          exact Go.Proofs.ShX.xIndexAny Tryz.lays153 (by kernel_rfl) a0 a1 w h1 h2 h3 (fun j b hb => of_decide_eq_true (List.all_eq_true.1 h4 b (List.mem_of_getElem? hb)))
        · rw [if_neg h4] at h; cases h
      · rw [if_neg h3] at h; cases h
    · rw [if_neg h2] at h; cases h
  · rw [if_neg h1] at h; cases h


/-! ### selector_marked: function 86 -/
def selector_marked.l0 : Nat → ByteArray → List ByteArray → Option (List ByteArray)
  | 0, _, _ => none
  | k + 1, x0, x3 => if 0 ≤ (mn 1 (x0.size : Int)) then (if (mn 1 (x0.size : Int)) ≤ (x0.size : Int) then ((strings_IndexAny.f (x0.extract ((mn 1 (x0.size : Int)) : Int).toNat x0.size) (⟨#[35, 46, 58]⟩ : ByteArray)).bind fun t101 => (if t101 < 0 then (if x3.length < 8796093022208 then (some (x3 ++ [x0])) else (none)) else (if 0 ≤ (wrap64 (t101 + 1)) then (if (wrap64 (t101 + 1)) ≤ (x0.size : Int) then (if x3.length < 8796093022208 then (selector_marked.l0 k (x0.extract ((wrap64 (t101 + 1)) : Int).toNat x0.size) (x3 ++ [x0.extract 0 ((wrap64 (t101 + 1)) : Int).toNat])) else (none)) else (none)) else (none)))) else (none)) else (none)
def selector_marked.f (k : Nat) (a0 : ByteArray) : Option (List ByteArray) := selector_marked.l0 k a0 ([] : List ByteArray)
theorem selector_marked.mono_l : ∀ k, (∀ y0 y1, LeO (selector_marked.l0 k y0 y1) (selector_marked.l0 (k + 1) y0 y1))
  | 0 => fun _ _ r h => by simp [selector_marked.l0] at h
  | k + 1 => by
    have ih0 := selector_marked.mono_l k
    · intro y0 y1
      unfold selector_marked.l0
      repeat' first
      | (with_reducible exact ih0 _ _)
      | (with_reducible exact LeO.refl _)
      | (with_reducible exact LeO.none _)
      | (with_reducible refine LeO.ite ?_ ?_)
      | (with_reducible refine LeO.bind ?_ (fun _ => ?_))
      | exact ih0 _ _
      | exact LeO.none _
      | refine LeO.ite ?_ ?_
      | refine LeO.bind ?_ (fun _ => ?_)
theorem selector_marked.mono : ∀ a0 k, LeO (selector_marked.f k a0) (selector_marked.f (k + 1) a0) := by
  intro a0 k
  have ih0 := selector_marked.mono_l k
  unfold selector_marked.f
  repeat' first
      | (with_reducible exact ih0 _ _)
      | (with_reducible exact LeO.refl _)
      | (with_reducible exact LeO.none _)
      | (with_reducible refine LeO.ite ?_ ?_)
      | (with_reducible refine LeO.bind ?_ (fun _ => ?_))
      | exact ih0 _ _
      | exact LeO.none _
      | refine LeO.ite ?_ ?_
      | refine LeO.bind ?_ (fun _ => ?_)
def selector_marked.T5 : Bool × List (List Nat × List Nat) := (true, [([], []), ([], []), ([], []), ([2], [2]), ([1, 3], [1, 3]), ([4], [4]), ([0, 5], [0, 5]), ([], []), ([], []), ([8], [8]), ([7, 9], [7, 9]), ([6, 6, 0, 1, 2, 3, 4, 5, 6], [0, 6]), ([10, 11, 0, 1, 2, 3, 4, 5, 6, 7, 8, 9, 10, 11], [1, 7, 10])])
def selector_marked.B5 : List Nat := [0, 0, 0, 4, 14, 30, 63, 0, 0, 256, 896, 127, 4095]
theorem selector_marked.tab5 : rtab .any (opsOf Tryz.f86 5) = selector_marked.T5 := by kernel_rfl
theorem selector_marked.bits5 : waitsOk selector_marked.T5.2 selector_marked.B5 = true := by kernel_rfl
set_option maxHeartbeats 8000000 in
set_option maxRecDepth 100000 in
theorem selector_marked.calls (k : Nat) (a0 : ByteArray) (r : List ByteArray) (w : World) (h : selector_marked.f k a0 = some r) :
    Calls Tryz.prog 86 #[.string a0] w fun e w' => ∃ v0_ : Value, e = .returned (v0_) ∧ Kd.R Kd.string 9 w' w.heap.size (fun _ => True) v0_ r ∧ Below w.heap.size w w' := by
  have HB := Aside0.mk (Below.refl w.heap.size w)
  have H : (selector_marked.l0 k a0 ([] : List ByteArray)) = some r := h
  clear h
  have H' := Aside0.mk H
  clear H
  go_enter Tryz.func86, Tryz.ntmps86
  go_wp2
  go_loopg [0, 3] k (fun kq v0 v3 w' => ∃ (x0_1 : ByteArray) (x3_1 : List ByteArray), v0 = .string x0_1 ∧ Aside0 (selector_marked.l0 kq x0_1 x3_1 = some r) ∧ Aside0 (kq ≤ k) ∧ Aside0 (Kd.R Kd.string 9 w' w.heap.size (fun _ => True) v3 x3_1) ∧ Aside0 (Below w.heap.size w w'))
  case atStart => exact ⟨(a0), (([] : List ByteArray)), (by first | rfl), H', ⟨Nat.le_refl _⟩, ⟨by exact Kd.R_nil _ _ _ _ _⟩, ⟨by exact HB.out⟩⟩
  case round =>
    clear H'
    obtain ⟨x0_1, x3_1, rfl, HA, HK1, HO_3, HB⟩ := hrel
    cases gk with
    | zero => exact absurd HA.out (by simp [selector_marked.l0])
    | succ k1 =>
      have H := HA.out
      clear HA
      simp only [selector_marked.l0] at H
      obtain ⟨ji2, hji2⟩ : ∃ j_ : Int, (mn 1 (x0_1.size : Int)) = j_ := ⟨_, rfl⟩
      replace H : (if 0 ≤ (ji2) then (if (ji2) ≤ (x0_1.size : Int) then ((strings_IndexAny.f (x0_1.extract ((ji2) : Int).toNat x0_1.size) (⟨#[35, 46, 58]⟩ : ByteArray)).bind fun t101 => (if t101 < 0 then (if x3_1.length < 8796093022208 then (some (x3_1 ++ [x0_1])) else (none)) else (if 0 ≤ (wrap64 (t101 + 1)) then (if (wrap64 (t101 + 1)) ≤ (x0_1.size : Int) then (if x3_1.length < 8796093022208 then (selector_marked.l0 k1 (x0_1.extract ((wrap64 (t101 + 1)) : Int).toNat x0_1.size) (x3_1 ++ [x0_1.extract 0 ((wrap64 (t101 + 1)) : Int).toNat])) else (none)) else (none)) else (none)))) else (none)) else (none)) = some r := by first | (rw [hji2] at H; exact H)
      have hji2_ : (if (x0_1.size : Int) < 1 then (x0_1.size : Int) else 1) = ji2 := hji2
      by_cases c3 : 0 ≤ (ji2)
      · rw [if_pos c3] at H
        have c3b0 := eq_true c3
        have c3b1 : decide (0 ≤ (ji2)) = true := decide_eq_true c3
        clear c3
        by_cases c4 : (ji2) ≤ (x0_1.size : Int)
        · rw [if_pos c4] at H
          have c4b0 := eq_true c4
          have c4b1 : decide ((ji2) ≤ (x0_1.size : Int)) = true := decide_eq_true c4
          clear c4
          replace H := Option.bind_eq_some_iff.mp H
          obtain ⟨t101, A50, H⟩ := H
          replace H : (if t101 < 0 then (if x3_1.length < 8796093022208 then (some (x3_1 ++ [x0_1])) else (none)) else (if 0 ≤ (wrap64 (t101 + 1)) then (if (wrap64 (t101 + 1)) ≤ (x0_1.size : Int) then (if x3_1.length < 8796093022208 then (selector_marked.l0 k1 (x0_1.extract ((wrap64 (t101 + 1)) : Int).toNat x0_1.size) (x3_1 ++ [x0_1.extract 0 ((wrap64 (t101 + 1)) : Int).toNat])) else (none)) else (none)) else (none))) = some r := H
          have A5 := Aside0.mk A50
          clear A50
          by_cases c6 : t101 < 0
          · rw [if_pos c6] at H
            have c6b0 : decide (t101 < 0) = true := decide_eq_true c6
            clear c6
            by_cases c7 : x3_1.length < 8796093022208
            · rw [if_pos c7] at H
              have LMc7 := Aside0.mk c7
              clear c7
              obtain ⟨y102, hy102⟩ : ∃ y_ : List ByteArray, y_ = (x3_1 ++ [x0_1]) := ⟨_, rfl⟩
              replace H : (some y102) = some r := by first | (rw [hy102]; with_reducible exact H)
              have Ny102 := Aside0.mk hy102
              clear hy102
              obtain rfl := Option.some.inj H
              go_wp2_with (first | ((with_reducible refine gate_callee (f := 101) rfl ?_); refine goesL_ (some 10) rfl rfl Tryz.func101 (by kernel_rfl) rfl #[.string (x0_1.extract ((ji2) : Int).toNat x0_1.size), .string (⟨#[35, 46, 58]⟩ : ByteArray)] rfl (by (try simp only [List.map_toArray, List.map_cons, List.map_nil]); first | rfl) ?_; (with_reducible refine (strings_IndexAny.calls (x0_1.extract ((ji2) : Int).toNat x0_1.size) (⟨#[35, 46, 58]⟩ : ByteArray) t101 _ A5.out).mono ?_); rintro e w8 ⟨rfl, hb⟩; refine ⟨_, rfl, ?_⟩; have n0_ := Aside0.mk (Kd.R_below HO_3.out hb); have n1_ := Aside0.mk (below_step HB.out hb); clear HO_3; clear HB; have HO_3 := n0_; have HB := n1_; clear n0_ n1_; (try clear hb); (try clear hb2); (try clear hk); (try clear hi)) | ((with_reducible refine gate_builtin (b := .append) (xs := #[.tmp 13, .tmp 15]) rfl ?_); at_builtin; refine Kd.R_append Kd.string (w0 := w) w.heap.size rfl (.tmp 13) (.tmp 15) 76 9 (.string ⟨#[]⟩) 16 rfl Tryz.underlying76 info9 rfl (by decide) (by omega) u3 x3_1 x0_1 [.string x0_1] (fun _ => True) (fun _ => False) rfl rfl ?aP (fun _ hk => hk.elim) ?aF ?aO ?aB ?aS ?aL ?_; (case aP => exact rfl); (case aB => exact HB.out); (case aF => exact (fun _ _ => trivial)); (case aO => exact HO_3.out); (case aS => exact (below_size HB.out)); (case aL => have := LMc7.out; omega); intro v103 w9 ho hb hg hat; rw [← Ny102.out] at ho; have n0_ := Aside0.mk (hb); have n1_ := Aside0.mk (ho); clear HB; clear HO_3; have HB := n0_; have HO104 := n1_; clear n0_ n1_; clear ho hb hg hat))
              go_ret
              exact ⟨_, by first | rfl, by exact HO104.out, by exact HB.out⟩
            · rw [if_neg c7] at H
              exact absurd H (by simp)
          · rw [if_neg c6] at H
            have c6b0 : decide (t101 < 0) = false := decide_eq_false c6
            clear c6
            obtain ⟨ji10, hji10⟩ : ∃ j_ : Int, (wrap64 (t101 + 1)) = j_ := ⟨_, rfl⟩
            replace H : (if 0 ≤ (ji10) then (if (ji10) ≤ (x0_1.size : Int) then (if x3_1.length < 8796093022208 then (selector_marked.l0 k1 (x0_1.extract ((ji10) : Int).toNat x0_1.size) (x3_1 ++ [x0_1.extract 0 ((ji10) : Int).toNat])) else (none)) else (none)) else (none)) = some r := by first | (rw [hji10] at H; exact H)
            (try rw [hji10] at A5)
            have hji10w : (IntKind.i64.wrap (t101 + 1)) = ji10 := (i64_w _).trans hji10
            by_cases c11 : 0 ≤ (ji10)
            · rw [if_pos c11] at H
              have c11b0 := eq_true c11
              have c11b1 : decide (0 ≤ (ji10)) = true := decide_eq_true c11
              clear c11
              by_cases c12 : (ji10) ≤ (x0_1.size : Int)
              · rw [if_pos c12] at H
                have c12b0 := eq_true c12
                have c12b1 : decide ((ji10) ≤ (x0_1.size : Int)) = true := decide_eq_true c12
                clear c12
                by_cases c13 : x3_1.length < 8796093022208
                · rw [if_pos c13] at H
                  have LMc13 := Aside0.mk c13
                  clear c13
                  obtain ⟨y105, hy105⟩ : ∃ y_ : List ByteArray, y_ = (x3_1 ++ [x0_1.extract 0 ((ji10) : Int).toNat]) := ⟨_, rfl⟩
                  replace H : (selector_marked.l0 k1 (x0_1.extract ((ji10) : Int).toNat x0_1.size) y105) = some r := by first | (rw [hy105]; with_reducible exact H)
                  have Ny105 := Aside0.mk hy105
                  clear hy105
                  have c14b0 := eq_true (of_decide_eq_true (by first | (with_reducible assumption)) : 0 ≤ (ji10))
                  have c15b0 := eq_true (of_decide_eq_true (by first | (with_reducible assumption)) : (ji10) ≤ (x0_1.size : Int))
                  have H' := Aside0.mk H
                  clear H
                  try go_wp2_with (first | ((with_reducible refine gate_callee (f := 101) rfl ?_); refine goesL_ (some 10) rfl rfl Tryz.func101 (by kernel_rfl) rfl #[.string (x0_1.extract ((ji2) : Int).toNat x0_1.size), .string (⟨#[35, 46, 58]⟩ : ByteArray)] rfl (by (try simp only [List.map_toArray, List.map_cons, List.map_nil]); first | rfl) ?_; (with_reducible refine (strings_IndexAny.calls (x0_1.extract ((ji2) : Int).toNat x0_1.size) (⟨#[35, 46, 58]⟩ : ByteArray) t101 _ A5.out).mono ?_); rintro e w16 ⟨rfl, hb⟩; refine ⟨_, rfl, ?_⟩; have n0_ := Aside0.mk (Kd.R_below HO_3.out hb); have n1_ := Aside0.mk (below_step HB.out hb); clear HO_3; clear HB; have HO_3 := n0_; have HB := n1_; clear n0_ n1_; (try clear hb); (try clear hb2); (try clear hk); (try clear hi)))
                  have n0_ := Aside0.mk (Kd.R_drew HO_3.out)
                  have n1_ := Aside0.mk (below_drew1 HB.out)
                  clear HO_3
                  clear HB
                  have HO_3 := n0_
                  have HB := n1_
                  clear n0_ n1_
                  refine start_ (n := 13) (S := fun w' => True) (ds := []) #[false, false, false, false, false, false, false, false, false, false, false, false, false] (by kernel_rfl) rfl rfl trivial (fun hHeld => ?_); refine with_tabW selector_marked.tab5 selector_marked.bits5 (fun HT_ HW_ => ?_)
                  generalize w16.drew = w17 at HO_3 HB hHeld ⊢
                  refine pure_ (i := 0) (N := some 17) (v := ?_) (a' := ?_) #[true, false, false, false, false, false, false, false, false, false, false, false, false] rfl rfl (any_of HT_.out (by kernel_rfl)) (fun _ _ _ h => h) (Or.inl ⟨by rfl, ?_⟩) ?_ ?_
                  rotate_left
                  · intro w'
                    go_simp
                    with_reducible rfl
                  rotate_left
                  · simp only [Act.put, List.setIfInBounds_toArray, List.set_cons_zero, List.set_cons_succ, i64_w, i32_w]
                    rfl
                  refine pure_ (i := 1) (N := some 18) (v := ?_) (a' := ?_) #[true, true, false, false, false, false, false, false, false, false, false, false, false] rfl rfl (any_of HT_.out (by kernel_rfl)) (fun _ _ _ h => h) (Or.inl ⟨by rfl, ?_⟩) ?_ ?_
                  rotate_left
                  · intro w'
                    go_simp
                    with_reducible rfl
                  rotate_left
                  · simp only [Act.put, List.setIfInBounds_toArray, List.set_cons_zero, List.set_cons_succ, i64_w, i32_w]
                    rfl
                  refine pure_ (i := 2) (N := some 19) (v := ?_) (a' := ?_) #[true, true, true, false, false, false, false, false, false, false, false, false, false] rfl rfl (any_of HT_.out (by kernel_rfl)) (fun _ _ _ h => h) (Or.inl ⟨by rfl, ?_⟩) ?_ ?_
                  rotate_left
                  · intro w'
                    go_simp
                    with_reducible rfl
                  rotate_left
                  · simp only [Act.put, List.setIfInBounds_toArray, List.set_cons_zero, List.set_cons_succ, i64_w, i32_w]
                    rfl
                  refine pure_ (i := 3) (N := some 20) (v := ?_) (a' := ?_) #[true, true, true, true, false, false, false, false, false, false, false, false, false] rfl rfl (any_of HT_.out (by kernel_rfl)) (fun _ _ _ h => h) (Or.inl ⟨by rfl, ?_⟩) ?_ ?_
                  rotate_left
                  · intro w'
                    go_simp
                    with_reducible rfl
                  rotate_left
                  · simp only [Act.put, List.setIfInBounds_toArray, List.set_cons_zero, List.set_cons_succ, i64_w, i32_w]
                    rfl
                  refine pure_ (i := 4) (N := some 21) (v := ?_) (a' := ?_) #[true, true, true, true, true, false, false, false, false, false, false, false, false] rfl rfl (any_of HT_.out (by kernel_rfl)) (fun _ _ _ h => h) (Or.inl ⟨by rfl, ?_⟩) ?_ ?_
                  rotate_left
                  · intro w'
                    go_simp
                    with_reducible rfl
                  rotate_left
                  · simp only [Act.put, List.setIfInBounds_toArray, List.set_cons_zero, List.set_cons_succ, i64_w, i32_w]
                    rfl
                  refine pure_ (i := 7) (N := some 24) (v := ?_) (a' := ?_) #[true, true, true, true, true, false, false, true, false, false, false, false, false] rfl rfl (any_of HT_.out (by kernel_rfl)) (fun _ _ _ h => h) (Or.inl ⟨by rfl, ?_⟩) ?_ ?_
                  rotate_left
                  · intro w'
                    go_simp
                    with_reducible rfl
                  rotate_left
                  · simp only [Act.put, List.setIfInBounds_toArray, List.set_cons_zero, List.set_cons_succ, i64_w, i32_w]
                    rfl
                  refine pure_ (i := 8) (N := some 25) (v := ?_) (a' := ?_) #[true, true, true, true, true, false, false, true, true, false, false, false, false] rfl rfl (any_of HT_.out (by kernel_rfl)) (fun _ _ _ h => h) (Or.inl ⟨by rfl, ?_⟩) ?_ ?_
                  rotate_left
                  · intro w'
                    go_simp
                    with_reducible rfl
                  rotate_left
                  · simp only [Act.put, List.setIfInBounds_toArray, List.set_cons_zero, List.set_cons_succ, i64_w, i32_w]
                    rfl
                  refine pure_ (i := 9) (N := some 26) (v := ?_) (a' := ?_) #[true, true, true, true, true, false, false, true, true, true, false, false, false] rfl rfl (any_of HT_.out (by kernel_rfl)) (fun _ _ _ h => h) (Or.inl ⟨by rfl, ?_⟩) ?_ ?_
                  rotate_left
                  · intro w'
                    go_simp
                    with_reducible rfl
                  rotate_left
                  · simp only [Act.put, List.setIfInBounds_toArray, List.set_cons_zero, List.set_cons_succ, i64_w, i32_w]
                    rfl
                  refine pure_ (i := 10) (N := some 27) (v := ?_) (a' := ?_) #[true, true, true, true, true, false, false, true, true, true, true, false, false] rfl rfl (any_of HT_.out (by kernel_rfl)) (fun _ _ _ h => h) (Or.inl ⟨by rfl, ?_⟩) ?_ ?_
                  rotate_left
                  · intro w'
                    go_simp
                    with_reducible rfl
                  rotate_left
                  · simp only [Act.put, List.setIfInBounds_toArray, List.set_cons_zero, List.set_cons_succ, i64_w, i32_w]
                    rfl
                  refine one_ (i := 5) (N := some 22) #[true, true, true, true, true, true, false, true, true, true, true, false, false] rfl rfl (one_of HT_.out (by kernel_rfl)) (by decide) (fun K hK => ?_)
                  refine value_ (w1 := ?_) (v := ?_) (by rfl) rfl ?_ ?_
                  rotate_left 2
                  · go_simp
                    constructor
                    · rfl
                    · rfl
                  refine hK.out _ _ trivial (fun hHeld => ?_)
                  clear hK K
                  refine norm_ (a' := ?_) ?_ ?_
                  rotate_left
                  · show Act.put _ (some 22) _ = _
                    simp only [Act.put, List.setIfInBounds_toArray, List.set_cons_zero, List.set_cons_succ, i64_w, i32_w]
                    rfl
                  refine one_ (i := 6) (N := some 23) #[true, true, true, true, true, true, true, true, true, true, true, false, false] rfl rfl (one_of HT_.out (by kernel_rfl)) (by decide) (fun K hK => ?_)
                  refine Kd.R_append_step Kd.string (w0 := w) w.heap.size (by rfl) (.tmp 17) (.tmp 22) 76 9 (.string ⟨#[]⟩) 16 rfl Tryz.underlying76 info9 rfl (by decide) (by omega) u3 x3_1 (x0_1.extract 0 ((ji10) : Int).toNat) [.string (x0_1.extract 0 ((ji10) : Int).toNat)] (fun _ => True) (fun _ => False) rfl rfl ?aP (fun _ hk => hk.elim) ?aF ?aO ?aB ?aS ?aL ?_
                  (case aP => exact rfl)
                  (case aB => exact HB.out)
                  (case aF => exact (fun _ _ => trivial))
                  (case aO => exact HO_3.out)
                  (case aS => exact (below_size HB.out))
                  (case aL => have := LMc13.out; omega)
                  intro v106 w18 ho hb hg hat
                  rw [← Ny105.out] at ho
                  have n0_ := Aside0.mk (hb)
                  have n1_ := Aside0.mk (ho)
                  clear HB
                  clear HO_3
                  have HB := n0_
                  have HO107 := n1_
                  clear n0_ n1_
                  clear ho hb hg hat
                  refine hK.out _ _ trivial (fun hHeld => ?_)
                  clear hK K
                  refine norm_ (a' := ?_) ?_ ?_
                  rotate_left
                  · show Act.put _ (some 23) _ = _
                    simp only [Act.put, List.setIfInBounds_toArray, List.set_cons_zero, List.set_cons_succ, i64_w, i32_w]
                    rfl
                  refine pure_ (i := 11) (N := some 3) (v := ?_) (a' := ?_) #[true, true, true, true, true, true, true, true, true, true, true, true, false] rfl rfl (any_of HT_.out (by kernel_rfl)) (fun _ _ _ h => h) (Or.inl ⟨by rfl, ?_⟩) ?_ ?_
                  rotate_left
                  · intro w'
                    go_simp
                    with_reducible rfl
                  rotate_left
                  · simp only [Act.put, List.setIfInBounds_toArray, List.set_cons_zero, List.set_cons_succ, i64_w, i32_w]
                    rfl
                  refine pure_ (i := 12) (N := some 0) (v := ?_) (a' := ?_) #[true, true, true, true, true, true, true, true, true, true, true, true, true] rfl rfl (any_of HT_.out (by kernel_rfl)) (fun _ _ _ h => h) (Or.inl ⟨by rfl, ?_⟩) ?_ ?_
                  rotate_left
                  · intro w'
                    go_simp
                    with_reducible rfl
                  rotate_left
                  · simp only [Act.put, List.setIfInBounds_toArray, List.set_cons_zero, List.set_cons_succ, i64_w, i32_w]
                    rfl
                  refine done_ (done_of HT_.out (by kernel_rfl)) ?_
                  try go_wp2
                  go_roundg k1
                  case measure => have := HK1.out; omega
                  case rel => exact ⟨(x0_1.extract ((ji10) : Int).toNat x0_1.size), (y105), (by first | rfl), H', ⟨by have := HK1.out; omega⟩, ⟨by exact HO107.out⟩, ⟨by exact HB.out⟩⟩
                · rw [if_neg c13] at H
                  exact absurd H (by simp)
              · rw [if_neg c12] at H
                exact absurd H (by simp)
            · rw [if_neg c11] at H
              exact absurd H (by simp)
        · rw [if_neg c4] at H
          exact absurd H (by simp)
      · rw [if_neg c3] at H
        exact absurd H (by simp)

/-! ### strings_IndexByte: function 87 (by hand) -/
def strings_IndexByte.f (a0 : ByteArray) (a1 : Int) : Option Int := some (Lib.indexByte a0.data.toList a1.toNat.toUInt8)
theorem strings_IndexByte.calls (a0 : ByteArray) (a1 : Int) (r : Int) (w : World) (h : strings_IndexByte.f a0 a1 = some r) :
    Calls Tryz.prog 87 #[.string a0, .int .u8 a1] w fun e w' => e = .returned (.int .i64 r) ∧ Below w.heap.size w w' := by
  unfold strings_IndexByte.f at h
  cases h
  exact (Tryz.strings_IndexByte a0 a1 w).mono fun e w' ⟨he, hn⟩ => ⟨he, by rw [hn]; exact Below.refl _ _⟩


end Go.Proofs.YtolfpgccebdlpaaGreatDoor.HT
namespace Go.Proofs.YtolfpgccebdlpaaGreatDoor.HT
open Go.RowKit Go.Proofs.YtolfpgccebdlpaaGreatDoorW.PrintWords Go.Proofs.YtolfpgccebdlpaaGreatDoorW.PrintLast Go.Proofs.YtolfpgccebdlpaaGreatDoorW.PrintMore
attribute [local go_sem] max2_int min2_int max_two min_two max_three min_three max_four min_four   -- for this text's walks alone
set_option linter.unusedVariables false
set_option linter.unusedSimpArgs false

/-! ### selector_simple: function 42 -/
mutual
def selector_simple.j0 : Nat → List ByteArray → ByteArray → Bool → Bool → Option (ByteArray × List ByteArray × List ByteArray × Bool × Bool × Bool)
 | 0, _, _, _, _ => none
 | k + 1, x5, x110000, x110003, x110004 => selector_simple.l0 k 0 x5 (x5.length : Int) 0 x110000 ([] : List ByteArray) ([] : List ByteArray) x110003 x110004
def selector_simple.l0 : Nat → Int → List ByteArray → Int → Int → ByteArray → List ByteArray → List ByteArray → Bool → Bool → Option (ByteArray × List ByteArray × List ByteArray × Bool × Bool × Bool)
 | 0, _, _, _, _, _, _, _, _, _ => none
 | k + 1, x6, x29, x30, x31, x110000, x110001, x110002, x110003, x110004 => if x31 < x30 then (if 0 ≤ x31 then (if x31 < (x29.length : Int) then (if 1 ≤ ((rdOf ByteArray.empty x29 x31).size : Int) then (if (rdOf ByteArray.empty x29 x31).toList = ([58, 108, 105, 110, 107] : List UInt8) then (selector_simple.l0 k (wrap64 (x6 + 1)) x29 x30 (wrap64 (x31 + 1)) x110000 x110001 x110002 true x110004) else (if (rdOf ByteArray.empty x29 x31).toList = ([58, 118, 105, 115, 105, 116, 101, 100] : List UInt8) then (selector_simple.l0 k (wrap64 (x6 + 1)) x29 x30 (wrap64 (x31 + 1)) x110000 x110001 x110002 x110003 true) else (if 0 < ((rdOf ByteArray.empty x29 x31).size : Int) then (if (bt (rdOf ByteArray.empty x29 x31) 0) = 35 then (if x110001.length < 8796093022208 then (selector_simple.l0 k (wrap64 (x6 + 1)) x29 x30 (wrap64 (x31 + 1)) x110000 (x110001 ++ [(rdOf ByteArray.empty x29 x31).extract 1 (rdOf ByteArray.empty x29 x31).size]) x110002 x110003 x110004) else (none)) else (if (bt (rdOf ByteArray.empty x29 x31) 0) = 46 then (if x110002.length < 8796093022208 then (selector_simple.l0 k (wrap64 (x6 + 1)) x29 x30 (wrap64 (x31 + 1)) x110000 x110001 (x110002 ++ [(rdOf ByteArray.empty x29 x31).extract 1 (rdOf ByteArray.empty x29 x31).size]) x110003 x110004) else (none)) else (some ((⟨#[]⟩ : ByteArray), ([] : List ByteArray), ([] : List ByteArray), false, false, false)))) else (none)))) else (none)) else (none)) else (none)) else (if x6 ≤ 8 then ((selector_Simple_may.f x110000 x110001 x110002 x110003 x110004).bind fun t122 => (some (x110000, x110001, x110002, x110003, x110004, t122))) else (some (x110000, x110001, x110002, x110003, x110004, false)))
end
def selector_simple.f (k : Nat) (a0 : ByteArray) : Option (ByteArray × List ByteArray × List ByteArray × Bool × Bool × Bool) := if a0.toList = ([] : List UInt8) then (some ((⟨#[]⟩ : ByteArray), ([] : List ByteArray), ([] : List ByteArray), false, false, false)) else ((selector_marked.f k a0).bind fun t110 => (if 0 < (a0.size : Int) then ((strings_IndexByte.f (⟨#[35, 46, 58]⟩ : ByteArray) (bt a0 0)).bind fun t113 => (if t113 < 0 then (if 0 < (t110.length : Int) then (if (rdOf ByteArray.empty t110 0).toList = ([42] : List UInt8) then (if 1 ≤ (t110.length : Int) then (selector_simple.j0 k (t110.drop (1 : Int).toNat) (⟨#[]⟩ : ByteArray) false false) else (none)) else (if 1 ≤ (t110.length : Int) then (selector_simple.j0 k (t110.drop (1 : Int).toNat) (rdOf ByteArray.empty t110 0) false false) else (none))) else (none)) else (selector_simple.j0 k t110 (⟨#[]⟩ : ByteArray) false false))) else (none)))
theorem selector_simple.mono_l : ∀ k, (∀ y0 y1 y2 y3, LeO (selector_simple.j0 k y0 y1 y2 y3) (selector_simple.j0 (k + 1) y0 y1 y2 y3)) ∧ (∀ y0 y1 y2 y3 y4 y5 y6 y7 y8, LeO (selector_simple.l0 k y0 y1 y2 y3 y4 y5 y6 y7 y8) (selector_simple.l0 (k + 1) y0 y1 y2 y3 y4 y5 y6 y7 y8))
 | 0 => ⟨fun _ _ _ _ r h => by simp [selector_simple.j0] at h, fun _ _ _ _ _ _ _ _ _ r h => by simp [selector_simple.l0] at h⟩
 | k + 1 => by
  obtain ⟨ih0, ih1⟩ := selector_simple.mono_l k
  refine ⟨?_, ?_⟩
  ·intro y0 y1 y2 y3
   unfold selector_simple.j0
   repeat' first
   | (with_reducible exact ih0 _ _ _ _)
   | (with_reducible exact ih1 _ _ _ _ _ _ _ _ _)
   | (with_reducible exact selector_marked.mono _ _)
   | (with_reducible exact LeO.refl _)
   | (with_reducible exact LeO.none _)
   | (with_reducible refine LeO.ite ?_ ?_)
   | (with_reducible refine LeO.bind ?_ (fun _ => ?_))
   | exact ih0 _ _ _ _
   | exact ih1 _ _ _ _ _ _ _ _ _
   | exact selector_marked.mono _ _
   | exact LeO.none _
   | refine LeO.ite ?_ ?_
   | refine LeO.bind ?_ (fun _ => ?_)
  ·intro y0 y1 y2 y3 y4 y5 y6 y7 y8
   unfold selector_simple.l0
   repeat' first
   | (with_reducible exact ih0 _ _ _ _)
   | (with_reducible exact ih1 _ _ _ _ _ _ _ _ _)
   | (with_reducible exact selector_marked.mono _ _)
   | (with_reducible exact LeO.refl _)
   | (with_reducible exact LeO.none _)
   | (with_reducible refine LeO.ite ?_ ?_)
   | (with_reducible refine LeO.bind ?_ (fun _ => ?_))
   | exact ih0 _ _ _ _
   | exact ih1 _ _ _ _ _ _ _ _ _
   | exact selector_marked.mono _ _
   | exact LeO.none _
   | refine LeO.ite ?_ ?_
   | refine LeO.bind ?_ (fun _ => ?_)
theorem selector_simple.mono : ∀ a0 k, LeO (selector_simple.f k a0) (selector_simple.f (k + 1) a0) := by
 intro a0 k
 obtain ⟨ih0, ih1⟩ := selector_simple.mono_l k
 unfold selector_simple.f
 repeat' first
   | (with_reducible exact ih0 _ _ _ _)
   | (with_reducible exact ih1 _ _ _ _ _ _ _ _ _)
   | (with_reducible exact selector_marked.mono _ _)
   | (with_reducible exact LeO.refl _)
   | (with_reducible exact LeO.none _)
   | (with_reducible refine LeO.ite ?_ ?_)
   | (with_reducible refine LeO.bind ?_ (fun _ => ?_))
   | exact ih0 _ _ _ _
   | exact ih1 _ _ _ _ _ _ _ _ _
   | exact selector_marked.mono _ _
   | exact LeO.none _
   | refine LeO.ite ?_ ?_
   | refine LeO.bind ?_ (fun _ => ?_)
def selector_simple.T25 : Bool × List (List Nat × List Nat) := (true, [([], []), ([], []), ([1], [1]), ([2], [2]), ([3], [3]), ([4, 3, 3], [3, 4]), ([3, 5], [3, 5]), ([0, 5, 0], [0]), ([6, 7, 0, 1, 2, 3, 4, 5, 6, 7], [6])])
def selector_simple.B25 : List Nat := [0, 0, 2, 6, 14, 30, 62, 63, 255]
theorem selector_simple.tab25 : rtab .any (opsOf Tryz.f42 25) = selector_simple.T25 := by kernel_rfl
theorem selector_simple.bits25 : waitsOk selector_simple.T25.2 selector_simple.B25 = true := by kernel_rfl
set_option maxHeartbeats 8000000 in
set_option maxRecDepth 100000 in
theorem selector_simple.calls (k : Nat) (a0 : ByteArray) (r1 : ByteArray) (r2 : List ByteArray) (r3 : List ByteArray) (r4 : Bool) (r5 : Bool) (r6 : Bool) (w : World) (h : selector_simple.f k a0 = some (r1, r2, r3, r4, r5, r6)) :
  Calls Tryz.prog 42 #[.string a0] w fun e w' => ∃ v1_ v2_ : Value, e = .returned (.tuple #[.agg #[.string r1, v1_, v2_, .bool r4, .bool r5], .bool r6]) ∧ Kd.R Kd.string 9 w' w.heap.size (fun k_ => some k_ ≠ (v2_ : Value).ownBlock) v1_ r2 ∧ Kd.R Kd.string 9 w' w.heap.size (fun k_ => some k_ ≠ (v1_ : Value).ownBlock) v2_ r3 ∧ Below w.heap.size w w' := by
 have hu80 := Tryz.underlying80
 have HB := Aside0.mk (Below.refl w.heap.size w)
 have H : (if a0.toList = ([] : List UInt8) then (some ((⟨#[]⟩ : ByteArray), ([] : List ByteArray), ([] : List ByteArray), false, false, false)) else ((selector_marked.f k a0).bind fun t110 => (if 0 < (a0.size : Int) then ((strings_IndexByte.f (⟨#[35, 46, 58]⟩ : ByteArray) (bt a0 0)).bind fun t113 => (if t113 < 0 then (if 0 < (t110.length : Int) then (if (rdOf ByteArray.empty t110 0).toList = ([42] : List UInt8) then (if 1 ≤ (t110.length : Int) then (selector_simple.j0 k (t110.drop (1 : Int).toNat) (⟨#[]⟩ : ByteArray) false false) else (none)) else (if 1 ≤ (t110.length : Int) then (selector_simple.j0 k (t110.drop (1 : Int).toNat) (rdOf ByteArray.empty t110 0) false false) else (none))) else (none)) else (selector_simple.j0 k t110 (⟨#[]⟩ : ByteArray) false false))) else (none)))) = some (r1, r2, r3, r4, r5, r6) := h
 clear h
 by_cases c2 : a0.toList = ([] : List UInt8)
 ·rw [if_pos c2] at H
  have c2b0 : (a0.toList == ([] : List UInt8)) = true := beq_iff_eq.mpr c2
  have c2b1 : (a0.toList != ([] : List UInt8)) = false := bne_eq_false_iff_eq.mpr c2
  clear c2
  simp only [Option.some.injEq, Prod.mk.injEq] at H
  obtain ⟨rfl, rfl, rfl, rfl, rfl, rfl⟩ := H
  go_enter Tryz.func42, Tryz.ntmps42
  go_wp2_with (first | ((with_reducible refine gate_dst (N := 2) rfl ?_); refine box_event ?hg (N := 2) ?hd (cs := #[.string (⟨#[]⟩ : ByteArray), .slice none 0 0, .slice none 0 0, .bool false, .bool false]) (t := 80) ?hr ?_; (case hd => rfl); (case hg => rfl); (case hr => first | (go_simp; done)); intro gb108 hg w3 hbox hb; have n0_ := Aside0.mk (below_step HB.out hb); have n1_ := Aside0.mk (hbox); have n2_ := Aside0.mk ((by rw [hg]; exact (below_size HB.out) : w.heap.size ≤ gb108)); have n3_ := Aside0.mk ((by rw [hg]; exact (below_size HB.out) : w.heap.size ≤ gb108)); clear HB; have HB := n0_; have BK108 := n1_; have GW108 := n2_; have GE108 := n3_; clear n0_ n1_ n2_ n3_; clear hb hbox hg) | ((with_reducible refine gate_dst (N := 4) rfl ?_); refine box_event ?hg (N := 4) ?hd (cs := #[.string (⟨#[]⟩ : ByteArray), .slice none 0 0, .slice none 0 0, .bool false, .bool false]) (t := 80) ?hr ?_; (case hd => rfl); (case hg => rfl); (case hr => first | (go_simp; done)); intro gb109 hg w4 hbox hb; have n0_ := Aside0.mk (blk_below (g := gb108) (o := .cells #[.string (⟨#[]⟩ : ByteArray), .slice none 0 0, .slice none 0 0, .bool false, .bool false] 80 (0, 0)) BK108.out hb); have n1_ := Aside0.mk (below_step HB.out hb); have n2_ := Aside0.mk (hbox); have n3_ := Aside0.mk ((by rw [hg]; exact (below_size HB.out) : w.heap.size ≤ gb109)); have n4_ := Aside0.mk ((by rw [hg]; exact (below_size HB.out) : w.heap.size ≤ gb109)); have n5_ := Aside0.mk ((by rw [hg]; exact Nat.ne_of_lt (blk_lt (g := gb108) (o := .cells #[.string (⟨#[]⟩ : ByteArray), .slice none 0 0, .slice none 0 0, .bool false, .bool false] 80 (0, 0)) BK108.out) : gb108 ≠ gb109)); have n6_ := Aside0.mk ((by rw [hg]; exact Nat.ne_of_gt (blk_lt (g := gb108) (o := .cells #[.string (⟨#[]⟩ : ByteArray), .slice none 0 0, .slice none 0 0, .bool false, .bool false] 80 (0, 0)) BK108.out) : gb109 ≠ gb108)); clear BK108; clear HB; have BK108 := n0_; have HB := n1_; have BK109 := n2_; have GW109 := n3_; have GE109 := n4_; have NB108_109 := n5_; have NB109_108 := n6_; clear n0_ n1_ n2_ n3_ n4_ n5_ n6_; clear hb hbox hg; have hnb5 := NB109_108.out; have hnc5 := NB108_109.out; have hcz6_0 : w4.cell? ⟨gb109, 0, none⟩ = some (.string (⟨#[]⟩ : ByteArray)) := (blk_cell BK109.out 0).trans rfl; have hcz6_1 : w4.cell? ⟨gb109, 1, none⟩ = some (.slice none 0 0) := (blk_cell BK109.out 1).trans rfl; have hcz6_2 : w4.cell? ⟨gb109, 2, none⟩ = some (.slice none 0 0) := (blk_cell BK109.out 2).trans rfl; have hcz6_3 : w4.cell? ⟨gb109, 3, none⟩ = some (.bool false) := (blk_cell BK109.out 3).trans rfl; have hcz6_4 : w4.cell? ⟨gb109, 4, none⟩ = some (.bool false) := (blk_cell BK109.out 4).trans rfl; have hfz6_0 := blk_frozen BK109.out 0; have hfz6_1 := blk_frozen BK109.out 1; have hfz6_2 := blk_frozen BK109.out 2; have hfz6_3 := blk_frozen BK109.out 3; have hfz6_4 := blk_frozen BK109.out 4; have hcz7_0 : w4.cell? ⟨gb108, 0, none⟩ = some (.string (⟨#[]⟩ : ByteArray)) := (blk_cell BK108.out 0).trans rfl; have hcz7_1 : w4.cell? ⟨gb108, 1, none⟩ = some (.slice none 0 0) := (blk_cell BK108.out 1).trans rfl; have hcz7_2 : w4.cell? ⟨gb108, 2, none⟩ = some (.slice none 0 0) := (blk_cell BK108.out 2).trans rfl; have hcz7_3 : w4.cell? ⟨gb108, 3, none⟩ = some (.bool false) := (blk_cell BK108.out 3).trans rfl; have hcz7_4 : w4.cell? ⟨gb108, 4, none⟩ = some (.bool false) := (blk_cell BK108.out 4).trans rfl; have hfz7_0 := blk_frozen BK108.out 0; have hfz7_1 := blk_frozen BK108.out 1; have hfz7_2 := blk_frozen BK108.out 2; have hfz7_3 := blk_frozen BK108.out 3; have hfz7_4 := blk_frozen BK108.out 4))
  refine bodyPost_ret (results_ct rfl _ _ gb108 80 #[.string (⟨#[]⟩ : ByteArray), .slice none 0 0, .slice none 0 0, .bool false, .bool false] (0, 0) _ rfl (by refine blk_put (cs := #[.string (⟨#[]⟩ : ByteArray), .slice none 0 0, .slice none 0 0, .bool false, .bool false]) ?_ 4 _ rfl; refine blk_put (cs := #[.string (⟨#[]⟩ : ByteArray), .slice none 0 0, .slice none 0 0, .bool false, .bool false]) ?_ 3 _ rfl; refine blk_put (cs := #[.string (⟨#[]⟩ : ByteArray), .slice none 0 0, .slice none 0 0, .bool false, .bool false]) ?_ 2 _ rfl; refine blk_put (cs := #[.string (⟨#[]⟩ : ByteArray), .slice none 0 0, .slice none 0 0, .bool false, .bool false]) ?_ 1 _ rfl; refine blk_put (cs := #[.string (⟨#[]⟩ : ByteArray), .slice none 0 0, .slice none 0 0, .bool false, .bool false]) ?_ 0 _ rfl; exact BK108.out) Tryz.underlying80 rfl (by kernel_rfl)) rfl ?_
  exact ⟨_, _, by first | rfl, by exact Kd.R_nil _ _ _ _ _, by exact Kd.R_nil _ _ _ _ _, by repeat (with_reducible first | exact HB.out | refine below_set ?_ GE108.out)⟩
 ·rw [if_neg c2] at H
  have c2b0 : (a0.toList == ([] : List UInt8)) = false := beq_eq_false_iff_ne.mpr c2
  have c2b1 : (a0.toList != ([] : List UInt8)) = true := bne_iff_ne.mpr c2
  replace H := Option.bind_eq_some_iff.mp H
  obtain ⟨t110, A80, H⟩ := H
  replace H : (if 0 < (a0.size : Int) then ((strings_IndexByte.f (⟨#[35, 46, 58]⟩ : ByteArray) (bt a0 0)).bind fun t113 => (if t113 < 0 then (if 0 < (t110.length : Int) then (if (rdOf ByteArray.empty t110 0).toList = ([42] : List UInt8) then (if 1 ≤ (t110.length : Int) then (selector_simple.j0 k (t110.drop (1 : Int).toNat) (⟨#[]⟩ : ByteArray) false false) else (none)) else (if 1 ≤ (t110.length : Int) then (selector_simple.j0 k (t110.drop (1 : Int).toNat) (rdOf ByteArray.empty t110 0) false false) else (none))) else (none)) else (selector_simple.j0 k t110 (⟨#[]⟩ : ByteArray) false false))) else (none)) = some (r1, r2, r3, r4, r5, r6) := H
  have A8 := Aside0.mk A80
  clear A80
  by_cases c9 : 0 < (a0.size : Int)
  ·rw [if_pos c9] at H
   have c9b0 : decide (0 < (a0.size : Int)) = true := decide_eq_true c9
   have c9b1 : decide (0 < a0.size) = true := decide_eq_true (by omega)
   clear c9
   replace H := Option.bind_eq_some_iff.mp H
   obtain ⟨t113, A110, H⟩ := H
   replace H : (if t113 < 0 then (if 0 < (t110.length : Int) then (if (rdOf ByteArray.empty t110 0).toList = ([42] : List UInt8) then (if 1 ≤ (t110.length : Int) then (selector_simple.j0 k (t110.drop (1 : Int).toNat) (⟨#[]⟩ : ByteArray) false false) else (none)) else (if 1 ≤ (t110.length : Int) then (selector_simple.j0 k (t110.drop (1 : Int).toNat) (rdOf ByteArray.empty t110 0) false false) else (none))) else (none)) else (selector_simple.j0 k t110 (⟨#[]⟩ : ByteArray) false false)) = some (r1, r2, r3, r4, r5, r6) := H
   have A11 := Aside0.mk A110
   clear A110
   have HC12 := Aside0.mk H
   clear H
   go_enter Tryz.func42, Tryz.ntmps42
   go_upto_if 18 with (first | ((with_reducible refine gate_dst (N := 2) rfl ?_); refine box_event ?hg (N := 2) ?hd (cs := #[.string (⟨#[]⟩ : ByteArray), .slice none 0 0, .slice none 0 0, .bool false, .bool false]) (t := 80) ?hr ?_; (case hd => rfl); (case hg => rfl); (case hr => first | (go_simp; done)); intro gb108 hg w13 hbox hb; have n0_ := Aside0.mk (below_step HB.out hb); have n1_ := Aside0.mk (hbox); have n2_ := Aside0.mk ((by rw [hg]; exact (below_size HB.out) : w.heap.size ≤ gb108)); have n3_ := Aside0.mk ((by rw [hg]; exact (below_size HB.out) : w.heap.size ≤ gb108)); clear HB; have HB := n0_; have BK108 := n1_; have GW108 := n2_; have GE108 := n3_; clear n0_ n1_ n2_ n3_; clear hb hbox hg) | ((with_reducible refine gate_dst (N := 4) rfl ?_); refine box_event ?hg (N := 4) ?hd (cs := #[.string (⟨#[]⟩ : ByteArray), .slice none 0 0, .slice none 0 0, .bool false, .bool false]) (t := 80) ?hr ?_; (case hd => rfl); (case hg => rfl); (case hr => first | (go_simp; done)); intro gb109 hg w14 hbox hb; have n0_ := Aside0.mk (blk_below (g := gb108) (o := .cells #[.string (⟨#[]⟩ : ByteArray), .slice none 0 0, .slice none 0 0, .bool false, .bool false] 80 (0, 0)) BK108.out hb); have n1_ := Aside0.mk (below_step HB.out hb); have n2_ := Aside0.mk (hbox); have n3_ := Aside0.mk ((by rw [hg]; exact (below_size HB.out) : w.heap.size ≤ gb109)); have n4_ := Aside0.mk ((by rw [hg]; exact (below_size HB.out) : w.heap.size ≤ gb109)); have n5_ := Aside0.mk ((by rw [hg]; exact Nat.ne_of_lt (blk_lt (g := gb108) (o := .cells #[.string (⟨#[]⟩ : ByteArray), .slice none 0 0, .slice none 0 0, .bool false, .bool false] 80 (0, 0)) BK108.out) : gb108 ≠ gb109)); have n6_ := Aside0.mk ((by rw [hg]; exact Nat.ne_of_gt (blk_lt (g := gb108) (o := .cells #[.string (⟨#[]⟩ : ByteArray), .slice none 0 0, .slice none 0 0, .bool false, .bool false] 80 (0, 0)) BK108.out) : gb109 ≠ gb108)); clear BK108; clear HB; have BK108 := n0_; have HB := n1_; have BK109 := n2_; have GW109 := n3_; have GE109 := n4_; have NB108_109 := n5_; have NB109_108 := n6_; clear n0_ n1_ n2_ n3_ n4_ n5_ n6_; clear hb hbox hg) | ((with_reducible refine gate_callee (f := 86) rfl ?_); refine goesL_ (some 14) rfl rfl Tryz.func86 (by kernel_rfl) rfl #[.string a0] rfl (by (try simp only [List.map_toArray, List.map_cons, List.map_nil]); first | rfl) ?_; (with_reducible refine (selector_marked.calls k a0 t110 _ A8.out).mono ?_); rintro e w15 ⟨v111, rfl, ho0, hb⟩; refine ⟨_, rfl, ?_⟩; have n0_ := Aside0.mk (Kd.R_lower ho0 (below_size HB.out)); have n1_ := Aside0.mk (blk_below (g := gb108) (o := .cells #[.string (⟨#[]⟩ : ByteArray), .slice none 0 0, .slice none 0 0, .bool false, .bool false] 80 (0, 0)) BK108.out hb); have n2_ := Aside0.mk (blk_below (g := gb109) (o := .cells #[.string (⟨#[]⟩ : ByteArray), .slice none 0 0, .slice none 0 0, .bool false, .bool false] 80 (0, 0)) BK109.out hb); have n3_ := Aside0.mk (below_step HB.out hb); clear BK108; clear BK109; clear HB; have HO112 := n0_; have BK108 := n1_; have BK109 := n2_; have HB := n3_; clear n0_ n1_ n2_ n3_; (try clear hb); (try clear hb2); (try clear hk); (try clear hi); (try clear ho0); have p10 : 0 ≤ (0 : Int) := (by omega); have q10 : 0 < a0.size := (by have : (0 : Int) < (a0.size : Int) := of_decide_eq_true (by first | (with_reducible assumption)); omega); have hx10 : ∀ h : 0 < a0.size, ((a0[0]'h).toNat : Int) = bt a0 0 := bt_at a0 0; clear p10; have qi10 : (0 < (a0.size : Int)) = True := eq_true (of_decide_eq_true (by first | (with_reducible assumption))); replace q10 := eq_true q10) | ((with_reducible refine gate_callee (f := 87) rfl ?_); refine goesL_ (some 17) rfl rfl Tryz.func87 (by kernel_rfl) rfl #[.string (⟨#[35, 46, 58]⟩ : ByteArray), .int .u8 (bt a0 0)] rfl (by (try simp only [List.map_toArray, List.map_cons, List.map_nil]); first | rfl) ?_; (with_reducible refine (strings_IndexByte.calls (⟨#[35, 46, 58]⟩ : ByteArray) (bt a0 0) t113 _ A11.out).mono ?_); rintro e w16 ⟨rfl, hb⟩; refine ⟨_, rfl, ?_⟩; have n0_ := Aside0.mk (Kd.R_below HO112.out hb); have n1_ := Aside0.mk (blk_below (g := gb108) (o := .cells #[.string (⟨#[]⟩ : ByteArray), .slice none 0 0, .slice none 0 0, .bool false, .bool false] 80 (0, 0)) BK108.out hb); have n2_ := Aside0.mk (blk_below (g := gb109) (o := .cells #[.string (⟨#[]⟩ : ByteArray), .slice none 0 0, .slice none 0 0, .bool false, .bool false] 80 (0, 0)) BK109.out hb); have n3_ := Aside0.mk (below_step HB.out hb); clear HO112; clear BK108; clear BK109; clear HB; have HO112 := n0_; have BK108 := n1_; have BK109 := n2_; have HB := n3_; clear n0_ n1_ n2_ n3_; (try clear hb); (try clear hb2); (try clear hk); (try clear hi)))
   (try simp only [Act.put, List.setIfInBounds_toArray, List.set_cons_zero, List.set_cons_succ])
   go_cut [5] (fun v5 wc => ∃ (kq : Nat) (x5_11 : List ByteArray) (x110000_11 : ByteArray), Aside0 (selector_simple.j0 kq x5_11 x110000_11 false false = some (r1, r2, r3, r4, r5, r6)) ∧ Aside0 (kq ≤ k) ∧ Aside0 (Kd.Q Kd.string 9 wc w.heap.size (fun _ => True) v5 x5_11) ∧ Aside0 (wc.heap[gb108]? = some (.cells #[.string (⟨#[]⟩ : ByteArray), (.slice none 0 0), (.slice none 0 0), .bool false, .bool false] 80 (0, 0))) ∧ Aside0 (wc.heap[gb109]? = some (.cells #[.string x110000_11, (.slice none 0 0), (.slice none 0 0), .bool false, .bool false] 80 (0, 0))) ∧ Aside0 (Below w.heap.size w wc))
   case first =>
    have H := HC12.out
    clear HC12
    by_cases c17 : t113 < 0
    ·rw [if_pos c17] at H
     have c17b0 : decide (t113 < 0) = true := decide_eq_true c17
     clear c17
     (first | rw [c17b0])
     by_cases c18 : 0 < (t110.length : Int)
     ·rw [if_pos c18] at H
      have c18b0 : decide (0 < (t110.length : Int)) = true := decide_eq_true c18
      have c18b1 : decide (0 < t110.length) = true := decide_eq_true (by omega)
      clear c18
      by_cases c19 : (rdOf ByteArray.empty t110 0).toList = ([42] : List UInt8)
      ·rw [if_pos c19] at H
       have c19b0 : ((rdOf ByteArray.empty t110 0).toList == ([42] : List UInt8)) = true := beq_iff_eq.mpr c19
       have c19b1 : ((rdOf ByteArray.empty t110 0).toList != ([42] : List UInt8)) = false := bne_eq_false_iff_eq.mpr c19
       clear c19
       by_cases c20 : 1 ≤ (t110.length : Int)
       ·rw [if_pos c20] at H
        have c20b0 := eq_true c20
        have c20b1 : decide (1 ≤ (t110.length : Int)) = true := decide_eq_true c20
        clear c20
        obtain ⟨y115, hy115⟩ : ∃ y_ : List ByteArray, y_ = (t110.drop (1 : Int).toNat) := ⟨_, rfl⟩
        replace H : (selector_simple.j0 k y115 (⟨#[]⟩ : ByteArray) false false) = some (r1, r2, r3, r4, r5, r6) := by first | (rw [hy115]; with_reducible exact H)
        have Ny115 := Aside0.mk hy115
        clear hy115
        have H' := Aside0.mk H
        clear H
        obtain ⟨Ao21, co21, eo21⟩ := Kd.R_slice HO112.out
        subst eo21
        have p114 : 0 ≤ (0 : Int) := (by omega)
        have q114 : 0 < (t110.length : Int) := of_decide_eq_true (by first | (with_reducible assumption))
        obtain ⟨ad114, e114, hx114_0⟩ := Kd.at_string (Kd.R_reads' HO112.out).2.2 0 p114 q114
        cases e114
        have qi114 : (0 < t110.length) = True := eq_true (by omega)
        (try rw [show ((0 : Int)).toNat = 0 from rfl] at hx114_0)
        (try rw [Addr.add_zero'] at hx114_0)
        replace p114 := eq_true p114
        replace q114 := eq_true q114
        have q22 : (1 : Int) ≤ ((t110.length : Int) : Int) := of_decide_eq_true (by first | (with_reducible assumption))
        obtain ⟨i022, hi022, _, hsz22, _⟩ := info_parts info9
        have hcut22 := cut_from (P := Tryz.prog) 76 9 .i64 Tryz.underlying76 hi022 1 hsz22 (some ad114) t110.length co21 1 (by omega) q22
        have hr22 := Kd.Q_drop (k := (1 : Int).toNat) (Kd.Q_of_R HO112.out) (by omega)
        obtain ⟨A22, hA22⟩ : ∃ A1, A1 = (if co21 = (1 : Int).toNat then (some ad114) else ((some ad114) : Option Addr).map (·.add ((1 : Int).toNat * 1))) := ⟨_, rfl⟩
        obtain ⟨c22, hc22⟩ : ∃ c1, c1 = co21 - (1 : Int).toNat := ⟨_, rfl⟩
        have hy22 : y115.length = t110.length - (1 : Int).toNat := (by rw [Ny115.out, List.length_drop])
        rw [← Ny115.out] at hr22
        rw [← hy22, ← hA22, ← hc22] at hcut22
        replace hr22 : Kd.Q Kd.string 9 w16 w.heap.size (fun _ => True) (.slice A22 y115.length c22) y115 := (by rw [hA22, hc22, hy22]; exact hr22)
        have HE22 : Aside0 ((Value.slice A22 y115.length c22).ownBlock = (.slice (some ad114) t110.length co21 : Value).ownBlock) := ⟨by rw [hA22]; split <;> (cases ((some ad114) : Option Addr) <;> rfl)⟩
        clear hy22 hi022 hsz22 HO112 hA22 hc22
        have HO117 := Aside0.mk hr22
        clear hr22
        replace q22 := eq_true q22
        go_wp2
        go_meet
        case rel => exact ⟨_, (y115), ((⟨#[]⟩ : ByteArray)), H', ⟨by first | omega⟩, ⟨by exact HO117.out⟩, ⟨by exact BK108.out⟩, ⟨by exact BK109.out⟩, ⟨by exact HB.out⟩⟩
       ·rw [if_neg c20] at H
        exact absurd H (by simp)
      ·rw [if_neg c19] at H
       have c19b0 : ((rdOf ByteArray.empty t110 0).toList == ([42] : List UInt8)) = false := beq_eq_false_iff_ne.mpr c19
       have c19b1 : ((rdOf ByteArray.empty t110 0).toList != ([42] : List UInt8)) = true := bne_iff_ne.mpr c19
       by_cases c23 : 1 ≤ (t110.length : Int)
       ·rw [if_pos c23] at H
        have c23b0 := eq_true c23
        have c23b1 : decide (1 ≤ (t110.length : Int)) = true := decide_eq_true c23
        clear c23
        obtain ⟨y119, hy119⟩ : ∃ y_ : List ByteArray, y_ = (t110.drop (1 : Int).toNat) := ⟨_, rfl⟩
        replace H : (selector_simple.j0 k y119 (rdOf ByteArray.empty t110 0) false false) = some (r1, r2, r3, r4, r5, r6) := by first | (rw [hy119]; with_reducible exact H)
        have Ny119 := Aside0.mk hy119
        clear hy119
        have H' := Aside0.mk H
        clear H
        obtain ⟨Ao24, co24, eo24⟩ := Kd.R_slice HO112.out
        subst eo24
        have p114 : 0 ≤ (0 : Int) := (by omega)
        have q114 : 0 < (t110.length : Int) := of_decide_eq_true (by first | (with_reducible assumption))
        obtain ⟨ad114, e114, hx114_0⟩ := Kd.at_string (Kd.R_reads' HO112.out).2.2 0 p114 q114
        cases e114
        have qi114 : (0 < t110.length) = True := eq_true (by omega)
        (try rw [show ((0 : Int)).toNat = 0 from rfl] at hx114_0)
        (try rw [Addr.add_zero'] at hx114_0)
        replace p114 := eq_true p114
        replace q114 := eq_true q114
        have p118 : 0 ≤ (0 : Int) := (by omega)
        have q118 : 0 < (t110.length : Int) := of_decide_eq_true (by first | (with_reducible assumption))
        obtain ⟨ad118, e118, hx118_0⟩ := Kd.at_string (Kd.R_reads' HO112.out).2.2 0 p118 q118
        obtain rfl : ad114 = ad118 := (by injection e118)
        have qi118 : (0 < t110.length) = True := eq_true (by omega)
        (try rw [show ((0 : Int)).toNat = 0 from rfl] at hx118_0)
        (try rw [Addr.add_zero'] at hx118_0)
        replace p118 := eq_true p118
        replace q118 := eq_true q118
        have hnb25 := NB109_108.out
        have hnc25 := NB108_109.out
        have hcz26_0 : w16.cell? ⟨gb109, 0, none⟩ = some (.string (⟨#[]⟩ : ByteArray)) := (blk_cell BK109.out 0).trans rfl
        have hcz26_1 : w16.cell? ⟨gb109, 1, none⟩ = some (.slice none 0 0) := (blk_cell BK109.out 1).trans rfl
        have hcz26_2 : w16.cell? ⟨gb109, 2, none⟩ = some (.slice none 0 0) := (blk_cell BK109.out 2).trans rfl
        have hcz26_3 : w16.cell? ⟨gb109, 3, none⟩ = some (.bool false) := (blk_cell BK109.out 3).trans rfl
        have hcz26_4 : w16.cell? ⟨gb109, 4, none⟩ = some (.bool false) := (blk_cell BK109.out 4).trans rfl
        have hfz26_0 := blk_frozen BK109.out 0
        have hfz26_1 := blk_frozen BK109.out 1
        have hfz26_2 := blk_frozen BK109.out 2
        have hfz26_3 := blk_frozen BK109.out 3
        have hfz26_4 := blk_frozen BK109.out 4
        go_wp2_with (first | ((with_reducible refine gate_store (t := 9) (p := 26) rfl ?_); refine store_event (t := 9) (p := 26) (v := ?vo_w27) (w1 := (w16.setCell ⟨gb109, 0, none⟩ (.string (rdOf ByteArray.empty t110 0)))) ?hg ?ho ?hn ?hr ?_; (case ho => rfl); (case hg => rfl); (case hn => rfl); (case hr => first | (go_simp; done)); intro w27 hw; have n0_ : Aside0 (Kd.R Kd.string 9 w27 w.heap.size (fun _ => True) (.slice (some ad114) t110.length co24) t110) := ⟨(by rw [hw]; exact (by exact Kd.R_mono (Kd.R_far (p := ⟨gb109, 0, none⟩) (Kd.R_types HO112.out BK109.out (by decide)) (fun _ hk => hk.2) (.string (rdOf ByteArray.empty t110 0))) (fun _ hk => trivial)))⟩; have n1_ : Aside0 (w27.heap[gb108]? = some (.cells #[.string (⟨#[]⟩ : ByteArray), .slice none 0 0, .slice none 0 0, .bool false, .bool false] 80 (0, 0))) := ⟨(by rw [hw]; exact (by refine blk_far ?_ NB108_109.out _; exact BK108.out))⟩; have n2_ : Aside0 (w27.heap[gb109]? = some (.cells #[.string (rdOf ByteArray.empty t110 0), .slice none 0 0, .slice none 0 0, .bool false, .bool false] 80 (0, 0))) := ⟨(by rw [hw]; exact (by refine blk_put (cs := #[.string (⟨#[]⟩ : ByteArray), .slice none 0 0, .slice none 0 0, .bool false, .bool false]) ?_ 0 _ rfl; exact BK109.out))⟩; have n3_ : Aside0 (Below w.heap.size w w27) := ⟨(by rw [hw]; exact (by repeat (with_reducible first | exact HB.out | refine below_set ?_ GE109.out)))⟩; clear hw; clear HO112; clear BK108; clear BK109; clear HB; have HO112 := n0_; have BK108 := n1_; have BK109 := n2_; have HB := n3_; clear n0_ n1_ n2_ n3_; have q28 : (1 : Int) ≤ ((t110.length : Int) : Int) := of_decide_eq_true (by first | (with_reducible assumption)); obtain ⟨i028, hi028, _, hsz28, _⟩ := info_parts info9; have hcut28 := cut_from (P := Tryz.prog) 76 9 .i64 Tryz.underlying76 hi028 1 hsz28 (some ad114) t110.length co24 1 (by omega) q28; have hr28 := Kd.Q_drop (k := (1 : Int).toNat) (Kd.Q_of_R HO112.out) (by omega); obtain ⟨A28, hA28⟩ : ∃ A1, A1 = (if co24 = (1 : Int).toNat then (some ad114) else ((some ad114) : Option Addr).map (·.add ((1 : Int).toNat * 1))) := ⟨_, rfl⟩; obtain ⟨c28, hc28⟩ : ∃ c1, c1 = co24 - (1 : Int).toNat := ⟨_, rfl⟩; have hy28 : y119.length = t110.length - (1 : Int).toNat := (by rw [Ny119.out, List.length_drop]); rw [← Ny119.out] at hr28; rw [← hy28, ← hA28, ← hc28] at hcut28; replace hr28 : Kd.Q Kd.string 9 w27 w.heap.size (fun _ => True) (.slice A28 y119.length c28) y119 := (by rw [hA28, hc28, hy28]; exact hr28); have HE28 : Aside0 ((Value.slice A28 y119.length c28).ownBlock = (.slice (some ad114) t110.length co24 : Value).ownBlock) := ⟨by rw [hA28]; split <;> (cases ((some ad114) : Option Addr) <;> rfl)⟩; clear hy28 hi028 hsz28 HO112 hA28 hc28; have HO121 := Aside0.mk hr28; clear hr28; replace q28 := eq_true q28))
        go_meet
        case rel => exact ⟨_, (y119), (rdOf ByteArray.empty t110 0), H', ⟨by first | omega⟩, ⟨by exact HO121.out⟩, ⟨by exact BK108.out⟩, ⟨by exact BK109.out⟩, ⟨by exact HB.out⟩⟩
       ·rw [if_neg c23] at H
        exact absurd H (by simp)
     ·rw [if_neg c18] at H
      exact absurd H (by simp)
    ·rw [if_neg c17] at H
     have c17b0 : decide (t113 < 0) = false := decide_eq_false c17
     clear c17
     (first | rw [c17b0])
     have H' := Aside0.mk H
     clear H
     go_wp2
     go_meet
     case rel => exact ⟨_, (t110), ((⟨#[]⟩ : ByteArray)), H', ⟨by first | omega⟩, ⟨Kd.Q_of_R HO112.out⟩, ⟨by exact BK108.out⟩, ⟨by exact BK109.out⟩, ⟨by exact HB.out⟩⟩
   case rest =>
    clear HC12
    try clear c1
    try clear p1
    try clear q1
    try clear hx1
    try clear qi1
    try clear c2
    try clear c2b0
    try clear c2b1
    try clear p2
    try clear q2
    try clear c4
    try clear c5
    try clear c8
    try clear c9
    try clear c9b0
    try clear c9b1
    try clear p10
    try clear q10
    try clear hx10
    try clear qi10
    try clear p11
    try clear q11
    try clear hx11
    try clear qi11
    try clear c17
    try clear c17b0
    try clear c18
    try clear c18b0
    try clear c18b1
    try clear c19
    try clear c19b0
    try clear c19b1
    try clear c20
    try clear c20b0
    try clear c20b1
    try clear c22
    try clear q22
    try clear c23
    try clear c23b0
    try clear c23b1
    try clear c25
    try clear c28
    try clear q28
    try clear hcz26_0
    try clear hcz26_1
    try clear hcz26_2
    try clear hcz26_3
    try clear hcz26_4
    try clear hcz6_0
    try clear hcz6_1
    try clear hcz6_2
    try clear hcz6_3
    try clear hcz6_4
    try clear hcz7_0
    try clear hcz7_1
    try clear hcz7_2
    try clear hcz7_3
    try clear hcz7_4
    try clear hfz26_0
    try clear hfz26_1
    try clear hfz26_2
    try clear hfz26_3
    try clear hfz26_4
    try clear hfz6_0
    try clear hfz6_1
    try clear hfz6_2
    try clear hfz6_3
    try clear hfz6_4
    try clear hfz7_0
    try clear hfz7_1
    try clear hfz7_2
    try clear hfz7_3
    try clear hfz7_4
    try clear hx114_0
    try clear hx118_0
    try clear p10
    try clear p114
    try clear p118
    try clear q10
    try clear q114
    try clear q118
    try clear q22
    try clear q28
    obtain ⟨kq, x5_11, x110000_11, HA, HJ11, HO_5, BK108, BK109, HB⟩ := hcut
    cases kq with
    | zero => exact absurd HA.out (by simp [selector_simple.j0])
    | succ kj11 =>
     have H := HA.out
     clear HA
     simp only [selector_simple.j0] at H
     have H' := Aside0.mk H
     clear H
     obtain ⟨Ao29, co29, eo29, _⟩ := Kd.Q_slice HO_5.out
     subst eo29
     go_wp2
     go_loopg [6, 31] kj11 (fun kq v6 v31 w' => ∃ (x6_2 : Int) (x31_2 : Int) (x109000_2 : ByteArray) (x109003_2 : Bool) (x109004_2 : Bool) (x110001_2 : List ByteArray) (x110002_2 : List ByteArray) (x110003_2 : Bool) (x110004_2 : Bool) (u110001 : Value) (u110002 : Value), v6 = .int .i64 x6_2 ∧ v31 = .int .i64 x31_2 ∧ Aside0 (selector_simple.l0 kq x6_2 x5_11 (x5_11.length : Int) x31_2 x110000_11 x110001_2 x110002_2 x110003_2 x110004_2 = some (r1, r2, r3, r4, r5, r6)) ∧ Aside0 (kq ≤ kj11) ∧ Aside0 (Kd.Q Kd.string 9 w' w.heap.size (fun k_ => some k_ ≠ (u110001 : Value).ownBlock ∧ some k_ ≠ (u110002 : Value).ownBlock) (.slice Ao29 x5_11.length co29) x5_11) ∧ Aside0 (Kd.R Kd.string 9 w' w.heap.size (fun k_ => some k_ ≠ ((.slice Ao29 x5_11.length co29) : Value).ownBlock ∧ some k_ ≠ (u110002 : Value).ownBlock) u110001 x110001_2) ∧ Aside0 (Kd.R Kd.string 9 w' w.heap.size (fun k_ => some k_ ≠ ((.slice Ao29 x5_11.length co29) : Value).ownBlock ∧ some k_ ≠ (u110001 : Value).ownBlock) u110002 x110002_2) ∧ Aside0 (w'.heap[gb108]? = some (.cells #[.string x109000_2, (.slice none 0 0), (.slice none 0 0), .bool x109003_2, .bool x109004_2] 80 (0, 0))) ∧ Aside0 (w'.heap[gb109]? = some (.cells #[.string x110000_11, u110001, u110002, .bool x110003_2, .bool x110004_2] 80 (0, 0))) ∧ Aside0 (Below w.heap.size w w'))
     case atStart => exact ⟨(0), (0), ((⟨#[]⟩ : ByteArray)), (false), (false), (([] : List ByteArray)), (([] : List ByteArray)), (false), (false), (.slice none 0 0), (.slice none 0 0), (by first | rfl), (by first | rfl), H', ⟨Nat.le_refl _⟩, ⟨by exact Kd.Q_mono HO_5.out (fun _ hk => ⟨(by simp [Value.ownBlock]), (by simp [Value.ownBlock])⟩)⟩, ⟨by exact Kd.R_nil _ _ _ _ _⟩, ⟨by exact Kd.R_nil _ _ _ _ _⟩, ⟨by exact BK108.out⟩, ⟨by exact BK109.out⟩, ⟨by exact HB.out⟩⟩
     case round =>
      clear H'
      try clear c1
      try clear p1
      try clear q1
      try clear hx1
      try clear qi1
      try clear c2
      try clear c2b0
      try clear c2b1
      try clear p2
      try clear q2
      try clear c4
      try clear c5
      try clear c8
      try clear c9
      try clear c9b0
      try clear c9b1
      try clear p10
      try clear q10
      try clear hx10
      try clear qi10
      try clear p11
      try clear q11
      try clear hx11
      try clear qi11
      try clear c17
      try clear c17b0
      try clear c18
      try clear c18b0
      try clear c18b1
      try clear c19
      try clear c19b0
      try clear c19b1
      try clear c20
      try clear c20b0
      try clear c20b1
      try clear c22
      try clear q22
      try clear c23
      try clear c23b0
      try clear c23b1
      try clear c25
      try clear c28
      try clear q28
      try clear hcz26_0
      try clear hcz26_1
      try clear hcz26_2
      try clear hcz26_3
      try clear hcz26_4
      try clear hcz6_0
      try clear hcz6_1
      try clear hcz6_2
      try clear hcz6_3
      try clear hcz6_4
      try clear hcz7_0
      try clear hcz7_1
      try clear hcz7_2
      try clear hcz7_3
      try clear hcz7_4
      try clear hfz26_0
      try clear hfz26_1
      try clear hfz26_2
      try clear hfz26_3
      try clear hfz26_4
      try clear hfz6_0
      try clear hfz6_1
      try clear hfz6_2
      try clear hfz6_3
      try clear hfz6_4
      try clear hfz7_0
      try clear hfz7_1
      try clear hfz7_2
      try clear hfz7_3
      try clear hfz7_4
      try clear hx114_0
      try clear hx118_0
      try clear p1
      try clear p10
      try clear p11
      try clear p114
      try clear p118
      try clear p2
      try clear q1
      try clear q10
      try clear q11
      try clear q114
      try clear q118
      try clear q2
      try clear q22
      try clear q28
      obtain ⟨x6_2, x31_2, x109000_2, x109003_2, x109004_2, x110001_2, x110002_2, x110003_2, x110004_2, u110001, u110002, rfl, rfl, HA, HK2, HO_29, HO_110001, HO_110002, BK108, BK109, HB⟩ := hrel
      cases gk with
      | zero => exact absurd HA.out (by simp [selector_simple.l0])
      | succ k2 =>
       have H := HA.out
       clear HA
       simp only [selector_simple.l0] at H
       by_cases c30 : x31_2 < (x5_11.length : Int)
       ·rw [if_pos c30] at H
        have c30b0 : decide (x31_2 < (x5_11.length : Int)) = true := decide_eq_true c30
        clear c30
        by_cases c31 : 0 ≤ x31_2
        ·rw [if_pos c31] at H
         have c31b0 : decide (0 ≤ x31_2) = true := decide_eq_true c31
         clear c31
         by_cases c32 : x31_2 < (x5_11.length : Int)
         ·rw [if_pos c32] at H
          have c32b0 : decide (x31_2 < (x5_11.length : Int)) = true := decide_eq_true c32
          clear c32
          by_cases c33 : 1 ≤ ((rdOf ByteArray.empty x5_11 x31_2).size : Int)
          ·rw [if_pos c33] at H
           have c33b0 := eq_true c33
           have c33b1 : decide (1 ≤ ((rdOf ByteArray.empty x5_11 x31_2).size : Int)) = true := decide_eq_true c33
           clear c33
           by_cases c34 : (rdOf ByteArray.empty x5_11 x31_2).toList = ([58, 108, 105, 110, 107] : List UInt8)
           ·rw [if_pos c34] at H
            have c34b0 : ((rdOf ByteArray.empty x5_11 x31_2).toList == ([58, 108, 105, 110, 107] : List UInt8)) = true := beq_iff_eq.mpr c34
            have c34b1 : ((rdOf ByteArray.empty x5_11 x31_2).toList != ([58, 108, 105, 110, 107] : List UInt8)) = false := bne_eq_false_iff_eq.mpr c34
            clear c34
            have H' := Aside0.mk H
            clear H
            have p123 : 0 ≤ (x31_2 : Int) := of_decide_eq_true (by first | (with_reducible assumption))
            have q123 : x31_2 < (x5_11.length : Int) := of_decide_eq_true (by first | (with_reducible assumption))
            obtain ⟨ad123, e123, hx123_0⟩ := Kd.at_string (Kd.Q_reads' HO_29.out).2.2 x31_2 p123 q123
            cases e123
            replace p123 := eq_true p123
            replace q123 := eq_true q123
            have hnb35 := NB109_108.out
            have hnc35 := NB108_109.out
            have hcz36_0 : wr.cell? ⟨gb109, 0, none⟩ = some (.string x110000_11) := (blk_cell BK109.out 0).trans rfl
            have hcz36_1 : wr.cell? ⟨gb109, 1, none⟩ = some (u110001) := (blk_cell BK109.out 1).trans rfl
            have hcz36_2 : wr.cell? ⟨gb109, 2, none⟩ = some (u110002) := (blk_cell BK109.out 2).trans rfl
            have hcz36_3 : wr.cell? ⟨gb109, 3, none⟩ = some (.bool x110003_2) := (blk_cell BK109.out 3).trans rfl
            have hcz36_4 : wr.cell? ⟨gb109, 4, none⟩ = some (.bool x110004_2) := (blk_cell BK109.out 4).trans rfl
            have hfz36_0 := blk_frozen BK109.out 0
            have hfz36_1 := blk_frozen BK109.out 1
            have hfz36_2 := blk_frozen BK109.out 2
            have hfz36_3 := blk_frozen BK109.out 3
            have hfz36_4 := blk_frozen BK109.out 4
            go_wp2
            go_roundg k2
            case measure => have := HJ11.out; have := HK2.out; omega
            case rel => exact ⟨(wrap64 (x6_2 + 1)), (wrap64 (x31_2 + 1)), (x109000_2), (x109003_2), (x109004_2), (x110001_2), (x110002_2), (true), (x110004_2), (u110001), (u110002), (by first | rfl), (by first | rfl), H', ⟨by have := HJ11.out; have := HK2.out; omega⟩, ⟨by exact Kd.Q_mono (Kd.Q_far (p := ⟨gb109, 3, none⟩) (Kd.Q_types HO_29.out BK109.out (by decide)) (fun _ hk => hk.2) (.bool true)) (fun _ hk => ⟨hk.1.1, hk.1.2⟩)⟩, ⟨by exact Kd.R_mono (Kd.R_far (p := ⟨gb109, 3, none⟩) (Kd.R_types HO_110001.out BK109.out (by decide)) (fun _ hk => hk.2) (.bool true)) (fun _ hk => ⟨hk.1.1, hk.1.2⟩)⟩, ⟨by exact Kd.R_mono (Kd.R_far (p := ⟨gb109, 3, none⟩) (Kd.R_types HO_110002.out BK109.out (by decide)) (fun _ hk => hk.2) (.bool true)) (fun _ hk => ⟨hk.1.1, hk.1.2⟩)⟩, ⟨by refine blk_far ?_ NB108_109.out _; exact BK108.out⟩, ⟨by refine blk_put (cs := #[.string x110000_11, u110001, u110002, .bool x110003_2, .bool x110004_2]) ?_ 3 _ rfl; exact BK109.out⟩, ⟨by repeat (with_reducible first | exact HB.out | refine below_set ?_ GE109.out)⟩⟩
           ·rw [if_neg c34] at H
            have c34b0 : ((rdOf ByteArray.empty x5_11 x31_2).toList == ([58, 108, 105, 110, 107] : List UInt8)) = false := beq_eq_false_iff_ne.mpr c34
            have c34b1 : ((rdOf ByteArray.empty x5_11 x31_2).toList != ([58, 108, 105, 110, 107] : List UInt8)) = true := bne_iff_ne.mpr c34
            by_cases c37 : (rdOf ByteArray.empty x5_11 x31_2).toList = ([58, 118, 105, 115, 105, 116, 101, 100] : List UInt8)
            ·rw [if_pos c37] at H
             have c37b0 : ((rdOf ByteArray.empty x5_11 x31_2).toList == ([58, 118, 105, 115, 105, 116, 101, 100] : List UInt8)) = true := beq_iff_eq.mpr c37
             have c37b1 : ((rdOf ByteArray.empty x5_11 x31_2).toList != ([58, 118, 105, 115, 105, 116, 101, 100] : List UInt8)) = false := bne_eq_false_iff_eq.mpr c37
             clear c37
             have H' := Aside0.mk H
             clear H
             have p123 : 0 ≤ (x31_2 : Int) := of_decide_eq_true (by first | (with_reducible assumption))
             have q123 : x31_2 < (x5_11.length : Int) := of_decide_eq_true (by first | (with_reducible assumption))
             obtain ⟨ad123, e123, hx123_0⟩ := Kd.at_string (Kd.Q_reads' HO_29.out).2.2 x31_2 p123 q123
             cases e123
             replace p123 := eq_true p123
             replace q123 := eq_true q123
             have hnb38 := NB109_108.out
             have hnc38 := NB108_109.out
             have hcz39_0 : wr.cell? ⟨gb109, 0, none⟩ = some (.string x110000_11) := (blk_cell BK109.out 0).trans rfl
             have hcz39_1 : wr.cell? ⟨gb109, 1, none⟩ = some (u110001) := (blk_cell BK109.out 1).trans rfl
             have hcz39_2 : wr.cell? ⟨gb109, 2, none⟩ = some (u110002) := (blk_cell BK109.out 2).trans rfl
             have hcz39_3 : wr.cell? ⟨gb109, 3, none⟩ = some (.bool x110003_2) := (blk_cell BK109.out 3).trans rfl
             have hcz39_4 : wr.cell? ⟨gb109, 4, none⟩ = some (.bool x110004_2) := (blk_cell BK109.out 4).trans rfl
             have hfz39_0 := blk_frozen BK109.out 0
             have hfz39_1 := blk_frozen BK109.out 1
             have hfz39_2 := blk_frozen BK109.out 2
             have hfz39_3 := blk_frozen BK109.out 3
             have hfz39_4 := blk_frozen BK109.out 4
             go_wp2
             go_roundg k2
             case measure => have := HJ11.out; have := HK2.out; omega
             case rel => exact ⟨(wrap64 (x6_2 + 1)), (wrap64 (x31_2 + 1)), (x109000_2), (x109003_2), (x109004_2), (x110001_2), (x110002_2), (x110003_2), (true), (u110001), (u110002), (by first | rfl), (by first | rfl), H', ⟨by have := HJ11.out; have := HK2.out; omega⟩, ⟨by exact Kd.Q_mono (Kd.Q_far (p := ⟨gb109, 4, none⟩) (Kd.Q_types HO_29.out BK109.out (by decide)) (fun _ hk => hk.2) (.bool true)) (fun _ hk => ⟨hk.1.1, hk.1.2⟩)⟩, ⟨by exact Kd.R_mono (Kd.R_far (p := ⟨gb109, 4, none⟩) (Kd.R_types HO_110001.out BK109.out (by decide)) (fun _ hk => hk.2) (.bool true)) (fun _ hk => ⟨hk.1.1, hk.1.2⟩)⟩, ⟨by exact Kd.R_mono (Kd.R_far (p := ⟨gb109, 4, none⟩) (Kd.R_types HO_110002.out BK109.out (by decide)) (fun _ hk => hk.2) (.bool true)) (fun _ hk => ⟨hk.1.1, hk.1.2⟩)⟩, ⟨by refine blk_far ?_ NB108_109.out _; exact BK108.out⟩, ⟨by refine blk_put (cs := #[.string x110000_11, u110001, u110002, .bool x110003_2, .bool x110004_2]) ?_ 4 _ rfl; exact BK109.out⟩, ⟨by repeat (with_reducible first | exact HB.out | refine below_set ?_ GE109.out)⟩⟩
            ·rw [if_neg c37] at H
             have c37b0 : ((rdOf ByteArray.empty x5_11 x31_2).toList == ([58, 118, 105, 115, 105, 116, 101, 100] : List UInt8)) = false := beq_eq_false_iff_ne.mpr c37
             have c37b1 : ((rdOf ByteArray.empty x5_11 x31_2).toList != ([58, 118, 105, 115, 105, 116, 101, 100] : List UInt8)) = true := bne_iff_ne.mpr c37
             by_cases c40 : 0 < ((rdOf ByteArray.empty x5_11 x31_2).size : Int)
             ·rw [if_pos c40] at H
              have c40b0 : decide (0 < ((rdOf ByteArray.empty x5_11 x31_2).size : Int)) = true := decide_eq_true c40
              have c40b1 : decide (0 < (rdOf ByteArray.empty x5_11 x31_2).size) = true := decide_eq_true (by omega)
              clear c40
              by_cases c42 : (bt (rdOf ByteArray.empty x5_11 x31_2) 0) = 35
              ·rw [if_pos c42] at H
               have c42b0 : ((bt (rdOf ByteArray.empty x5_11 x31_2) 0) == 35) = true := beq_iff_eq.mpr c42
               have c42b1 : ((bt (rdOf ByteArray.empty x5_11 x31_2) 0) != 35) = false := bne_eq_false_iff_eq.mpr c42
               clear c42
               by_cases c43 : x110001_2.length < 8796093022208
               ·rw [if_pos c43] at H
                have LMc43 := Aside0.mk c43
                clear c43
                obtain ⟨y124, hy124⟩ : ∃ y_ : List ByteArray, y_ = (x110001_2 ++ [(rdOf ByteArray.empty x5_11 x31_2).extract 1 (rdOf ByteArray.empty x5_11 x31_2).size]) := ⟨_, rfl⟩
                replace H : (selector_simple.l0 k2 (wrap64 (x6_2 + 1)) x5_11 (x5_11.length : Int) (wrap64 (x31_2 + 1)) x110000_11 y124 x110002_2 x110003_2 x110004_2) = some (r1, r2, r3, r4, r5, r6) := by first | (rw [hy124]; with_reducible exact H)
                have Ny124 := Aside0.mk hy124
                clear hy124
                have H' := Aside0.mk H
                clear H
                have p123 : 0 ≤ (x31_2 : Int) := of_decide_eq_true (by first | (with_reducible assumption))
                have q123 : x31_2 < (x5_11.length : Int) := of_decide_eq_true (by first | (with_reducible assumption))
                obtain ⟨ad123, e123, hx123_0⟩ := Kd.at_string (Kd.Q_reads' HO_29.out).2.2 x31_2 p123 q123
                cases e123
                replace p123 := eq_true p123
                replace q123 := eq_true q123
                have p41 : 0 ≤ (0 : Int) := (by omega)
                have q41 : 0 < (rdOf ByteArray.empty x5_11 x31_2).size := (by have : (0 : Int) < ((rdOf ByteArray.empty x5_11 x31_2).size : Int) := of_decide_eq_true (by first | (with_reducible assumption)); omega)
                have hx41 : ∀ h : 0 < (rdOf ByteArray.empty x5_11 x31_2).size, (((rdOf ByteArray.empty x5_11 x31_2)[0]'h).toNat : Int) = bt (rdOf ByteArray.empty x5_11 x31_2) 0 := bt_at (rdOf ByteArray.empty x5_11 x31_2) 0
                clear p41
                have qi41 : (0 < ((rdOf ByteArray.empty x5_11 x31_2).size : Int)) = True := eq_true (of_decide_eq_true (by first | (with_reducible assumption)))
                replace q41 := eq_true q41
                have hnb44 := NB109_108.out
                have hnc44 := NB108_109.out
                have hcz45_0 : wr.cell? ⟨gb109, 0, none⟩ = some (.string x110000_11) := (blk_cell BK109.out 0).trans rfl
                have hcz45_1 : wr.cell? ⟨gb109, 1, none⟩ = some (u110001) := (blk_cell BK109.out 1).trans rfl
                have hcz45_2 : wr.cell? ⟨gb109, 2, none⟩ = some (u110002) := (blk_cell BK109.out 2).trans rfl
                have hcz45_3 : wr.cell? ⟨gb109, 3, none⟩ = some (.bool x110003_2) := (blk_cell BK109.out 3).trans rfl
                have hcz45_4 : wr.cell? ⟨gb109, 4, none⟩ = some (.bool x110004_2) := (blk_cell BK109.out 4).trans rfl
                have hfz45_0 := blk_frozen BK109.out 0
                have hfz45_1 := blk_frozen BK109.out 1
                have hfz45_2 := blk_frozen BK109.out 2
                have hfz45_3 := blk_frozen BK109.out 3
                have hfz45_4 := blk_frozen BK109.out 4
                go_wp2_with (first | ((with_reducible refine gate_builtin (b := .append) (xs := #[.tmp 53, .tmp 55]) rfl ?_); at_builtin; refine Kd.R_append Kd.string (w0 := w) w.heap.size rfl (.tmp 53) (.tmp 55) 76 9 (.string ⟨#[]⟩) 16 rfl Tryz.underlying76 info9 rfl (by decide) (by omega) u110001 x110001_2 ((rdOf ByteArray.empty x5_11 x31_2).extract 1 (rdOf ByteArray.empty x5_11 x31_2).size) [.string ((rdOf ByteArray.empty x5_11 x31_2).extract 1 (rdOf ByteArray.empty x5_11 x31_2).size)] (fun k_ => some k_ ≠ (.slice (some ad123) x5_11.length co29 : Value).ownBlock ∧ some k_ ≠ (u110002 : Value).ownBlock) (fun _ => False) rfl rfl ?aP (fun _ hk => hk.elim) ?aF ?aO ?aB ?aS ?aL ?_; (case aP => exact rfl); (case aB => exact HB.out); (case aF => exact (fun k_ hk => ⟨Kd.fresh' (Kd.Q_lt HO_29.out) k_ hk, Kd.fresh' (Kd.R_lt HO_110002.out) k_ hk⟩)); (case aO => exact HO_110001.out); (case aS => exact (below_size HB.out)); (case aL => have := LMc43.out; omega); intro v125 w46 ho hb hg hat; rw [← Ny124.out] at ho; have n0_ := Aside0.mk (Kd.Q_after (ok := (fun k_ => some k_ ≠ (u110002 : Value).ownBlock)) (by exact Kd.Q_mono HO_29.out (fun _ hk => ⟨hk.2, hk.1⟩)) hg hat); have n1_ := Aside0.mk (Kd.R_after (ok := (fun k_ => some k_ ≠ (.slice (some ad123) x5_11.length co29 : Value).ownBlock)) HO_110002.out hg hat); have n2_ := Aside0.mk (blk_grown (g := gb108) (o := .cells #[.string x109000_2, .slice none 0 0, .slice none 0 0, .bool x109003_2, .bool x109004_2] 80 (0, 0)) BK108.out hg (Kd.R_ne HO_110001.out BK108.out (by decide))); have n3_ := Aside0.mk (blk_grown (g := gb109) (o := .cells #[.string x110000_11, u110001, u110002, .bool x110003_2, .bool x110004_2] 80 (0, 0)) BK109.out hg (Kd.R_ne HO_110001.out BK109.out (by decide))); have n4_ := Aside0.mk (hb); have n5_ := Aside0.mk (ho); clear HO_29; clear HO_110002; clear BK108; clear BK109; clear HB; clear HO_110001; have HO_29 := n0_; have HO_110002 := n1_; have BK108 := n2_; have BK109 := n3_; have HB := n4_; have HO126 := n5_; clear n0_ n1_ n2_ n3_ n4_ n5_; clear ho hb hg hat; obtain ⟨Ao47, co47, eo47⟩ := Kd.R_slice HO126.out; subst eo47; have hcz48_0 : w46.cell? ⟨gb109, 0, none⟩ = some (.string x110000_11) := (blk_cell BK109.out 0).trans rfl; have hcz48_1 : w46.cell? ⟨gb109, 1, none⟩ = some (u110001) := (blk_cell BK109.out 1).trans rfl; have hcz48_2 : w46.cell? ⟨gb109, 2, none⟩ = some (u110002) := (blk_cell BK109.out 2).trans rfl; have hcz48_3 : w46.cell? ⟨gb109, 3, none⟩ = some (.bool x110003_2) := (blk_cell BK109.out 3).trans rfl; have hcz48_4 : w46.cell? ⟨gb109, 4, none⟩ = some (.bool x110004_2) := (blk_cell BK109.out 4).trans rfl; have hfz48_0 := blk_frozen BK109.out 0; have hfz48_1 := blk_frozen BK109.out 1; have hfz48_2 := blk_frozen BK109.out 2; have hfz48_3 := blk_frozen BK109.out 3; have hfz48_4 := blk_frozen BK109.out 4))
                go_roundg k2
                case measure => have := HJ11.out; have := HK2.out; omega
                case rel => exact ⟨(wrap64 (x6_2 + 1)), (wrap64 (x31_2 + 1)), (x109000_2), (x109003_2), (x109004_2), (y124), (x110002_2), (x110003_2), (x110004_2), (.slice Ao47 y124.length co47), (u110002), (by first | rfl), (by first | rfl), H', ⟨by have := HJ11.out; have := HK2.out; omega⟩, ⟨by exact Kd.Q_mono (Kd.Q_far (p := ⟨gb109, 1, none⟩) (Kd.Q_types HO_29.out BK109.out (by decide)) (fun _ hk => hk.2) (.slice Ao47 y124.length co47)) (fun _ hk => ⟨hk.1.2, hk.1.1⟩)⟩, ⟨by exact Kd.R_mono (Kd.R_far (p := ⟨gb109, 1, none⟩) (Kd.R_types HO126.out BK109.out (by decide)) (fun _ hk => hk.2) (.slice Ao47 y124.length co47)) (fun _ hk => ⟨hk.1.1, hk.1.2⟩)⟩, ⟨by exact Kd.R_mono (Kd.R_far (p := ⟨gb109, 1, none⟩) (Kd.R_types HO_110002.out BK109.out (by decide)) (fun _ hk => hk.2) (.slice Ao47 y124.length co47)) (fun _ hk => ⟨hk.1.1, hk.1.2⟩)⟩, ⟨by refine blk_far ?_ NB108_109.out _; exact BK108.out⟩, ⟨by refine blk_put (cs := #[.string x110000_11, u110001, u110002, .bool x110003_2, .bool x110004_2]) ?_ 1 _ rfl; exact BK109.out⟩, ⟨by repeat (with_reducible first | exact HB.out | refine below_set ?_ GE109.out)⟩⟩
               ·rw [if_neg c43] at H
                exact absurd H (by simp)
              ·rw [if_neg c42] at H
               have c42b0 : ((bt (rdOf ByteArray.empty x5_11 x31_2) 0) == 35) = false := beq_eq_false_iff_ne.mpr c42
               have c42b1 : ((bt (rdOf ByteArray.empty x5_11 x31_2) 0) != 35) = true := bne_iff_ne.mpr c42
               by_cases c50 : (bt (rdOf ByteArray.empty x5_11 x31_2) 0) = 46
               ·rw [if_pos c50] at H
                have c50b0 : ((bt (rdOf ByteArray.empty x5_11 x31_2) 0) == 46) = true := beq_iff_eq.mpr c50
                have c50b1 : ((bt (rdOf ByteArray.empty x5_11 x31_2) 0) != 46) = false := bne_eq_false_iff_eq.mpr c50
                clear c50
                by_cases c51 : x110002_2.length < 8796093022208
                ·rw [if_pos c51] at H
                 have LMc51 := Aside0.mk c51
                 clear c51
                 obtain ⟨y127, hy127⟩ : ∃ y_ : List ByteArray, y_ = (x110002_2 ++ [(rdOf ByteArray.empty x5_11 x31_2).extract 1 (rdOf ByteArray.empty x5_11 x31_2).size]) := ⟨_, rfl⟩
                 replace H : (selector_simple.l0 k2 (wrap64 (x6_2 + 1)) x5_11 (x5_11.length : Int) (wrap64 (x31_2 + 1)) x110000_11 x110001_2 y127 x110003_2 x110004_2) = some (r1, r2, r3, r4, r5, r6) := by first | (rw [hy127]; with_reducible exact H)
                 have Ny127 := Aside0.mk hy127
                 clear hy127
                 have H' := Aside0.mk H
                 clear H
                 have p123 : 0 ≤ (x31_2 : Int) := of_decide_eq_true (by first | (with_reducible assumption))
                 have q123 : x31_2 < (x5_11.length : Int) := of_decide_eq_true (by first | (with_reducible assumption))
                 obtain ⟨ad123, e123, hx123_0⟩ := Kd.at_string (Kd.Q_reads' HO_29.out).2.2 x31_2 p123 q123
                 cases e123
                 replace p123 := eq_true p123
                 replace q123 := eq_true q123
                 have p41 : 0 ≤ (0 : Int) := (by omega)
                 have q41 : 0 < (rdOf ByteArray.empty x5_11 x31_2).size := (by have : (0 : Int) < ((rdOf ByteArray.empty x5_11 x31_2).size : Int) := of_decide_eq_true (by first | (with_reducible assumption)); omega)
                 have hx41 : ∀ h : 0 < (rdOf ByteArray.empty x5_11 x31_2).size, (((rdOf ByteArray.empty x5_11 x31_2)[0]'h).toNat : Int) = bt (rdOf ByteArray.empty x5_11 x31_2) 0 := bt_at (rdOf ByteArray.empty x5_11 x31_2) 0
                 clear p41
                 have qi41 : (0 < ((rdOf ByteArray.empty x5_11 x31_2).size : Int)) = True := eq_true (of_decide_eq_true (by first | (with_reducible assumption)))
                 replace q41 := eq_true q41
                 have p49 : 0 ≤ (0 : Int) := (by omega)
                 have q49 : 0 < (rdOf ByteArray.empty x5_11 x31_2).size := (by have : (0 : Int) < ((rdOf ByteArray.empty x5_11 x31_2).size : Int) := of_decide_eq_true (by first | (with_reducible assumption)); omega)
                 have hx49 : ∀ h : 0 < (rdOf ByteArray.empty x5_11 x31_2).size, (((rdOf ByteArray.empty x5_11 x31_2)[0]'h).toNat : Int) = bt (rdOf ByteArray.empty x5_11 x31_2) 0 := bt_at (rdOf ByteArray.empty x5_11 x31_2) 0
                 clear p49
                 have qi49 : (0 < ((rdOf ByteArray.empty x5_11 x31_2).size : Int)) = True := eq_true (of_decide_eq_true (by first | (with_reducible assumption)))
                 replace q49 := eq_true q49
                 have hnb52 := NB109_108.out
                 have hnc52 := NB108_109.out
                 have hcz53_0 : wr.cell? ⟨gb109, 0, none⟩ = some (.string x110000_11) := (blk_cell BK109.out 0).trans rfl
                 have hcz53_1 : wr.cell? ⟨gb109, 1, none⟩ = some (u110001) := (blk_cell BK109.out 1).trans rfl
                 have hcz53_2 : wr.cell? ⟨gb109, 2, none⟩ = some (u110002) := (blk_cell BK109.out 2).trans rfl
                 have hcz53_3 : wr.cell? ⟨gb109, 3, none⟩ = some (.bool x110003_2) := (blk_cell BK109.out 3).trans rfl
                 have hcz53_4 : wr.cell? ⟨gb109, 4, none⟩ = some (.bool x110004_2) := (blk_cell BK109.out 4).trans rfl
                 have hfz53_0 := blk_frozen BK109.out 0
                 have hfz53_1 := blk_frozen BK109.out 1
                 have hfz53_2 := blk_frozen BK109.out 2
                 have hfz53_3 := blk_frozen BK109.out 3
                 have hfz53_4 := blk_frozen BK109.out 4
                 go_wp2_with (first | ((with_reducible refine gate_builtin (b := .append) (xs := #[.tmp 63, .tmp 65]) rfl ?_); at_builtin; refine Kd.R_append Kd.string (w0 := w) w.heap.size rfl (.tmp 63) (.tmp 65) 76 9 (.string ⟨#[]⟩) 16 rfl Tryz.underlying76 info9 rfl (by decide) (by omega) u110002 x110002_2 ((rdOf ByteArray.empty x5_11 x31_2).extract 1 (rdOf ByteArray.empty x5_11 x31_2).size) [.string ((rdOf ByteArray.empty x5_11 x31_2).extract 1 (rdOf ByteArray.empty x5_11 x31_2).size)] (fun k_ => some k_ ≠ (.slice (some ad123) x5_11.length co29 : Value).ownBlock ∧ some k_ ≠ (u110001 : Value).ownBlock) (fun _ => False) rfl rfl ?aP (fun _ hk => hk.elim) ?aF ?aO ?aB ?aS ?aL ?_; (case aP => exact rfl); (case aB => exact HB.out); (case aF => exact (fun k_ hk => ⟨Kd.fresh' (Kd.Q_lt HO_29.out) k_ hk, Kd.fresh' (Kd.R_lt HO_110001.out) k_ hk⟩)); (case aO => exact HO_110002.out); (case aS => exact (below_size HB.out)); (case aL => have := LMc51.out; omega); intro v128 w54 ho hb hg hat; rw [← Ny127.out] at ho; have n0_ := Aside0.mk (Kd.Q_after (ok := (fun k_ => some k_ ≠ (u110001 : Value).ownBlock)) HO_29.out hg hat); have n1_ := Aside0.mk (Kd.R_after (ok := (fun k_ => some k_ ≠ (.slice (some ad123) x5_11.length co29 : Value).ownBlock)) HO_110001.out hg hat); have n2_ := Aside0.mk (blk_grown (g := gb108) (o := .cells #[.string x109000_2, .slice none 0 0, .slice none 0 0, .bool x109003_2, .bool x109004_2] 80 (0, 0)) BK108.out hg (Kd.R_ne HO_110002.out BK108.out (by decide))); have n3_ := Aside0.mk (blk_grown (g := gb109) (o := .cells #[.string x110000_11, u110001, u110002, .bool x110003_2, .bool x110004_2] 80 (0, 0)) BK109.out hg (Kd.R_ne HO_110002.out BK109.out (by decide))); have n4_ := Aside0.mk (hb); have n5_ := Aside0.mk (ho); clear HO_29; clear HO_110001; clear BK108; clear BK109; clear HB; clear HO_110002; have HO_29 := n0_; have HO_110001 := n1_; have BK108 := n2_; have BK109 := n3_; have HB := n4_; have HO129 := n5_; clear n0_ n1_ n2_ n3_ n4_ n5_; clear ho hb hg hat; obtain ⟨Ao55, co55, eo55⟩ := Kd.R_slice HO129.out; subst eo55; have hcz56_0 : w54.cell? ⟨gb109, 0, none⟩ = some (.string x110000_11) := (blk_cell BK109.out 0).trans rfl; have hcz56_1 : w54.cell? ⟨gb109, 1, none⟩ = some (u110001) := (blk_cell BK109.out 1).trans rfl; have hcz56_2 : w54.cell? ⟨gb109, 2, none⟩ = some (u110002) := (blk_cell BK109.out 2).trans rfl; have hcz56_3 : w54.cell? ⟨gb109, 3, none⟩ = some (.bool x110003_2) := (blk_cell BK109.out 3).trans rfl; have hcz56_4 : w54.cell? ⟨gb109, 4, none⟩ = some (.bool x110004_2) := (blk_cell BK109.out 4).trans rfl; have hfz56_0 := blk_frozen BK109.out 0; have hfz56_1 := blk_frozen BK109.out 1; have hfz56_2 := blk_frozen BK109.out 2; have hfz56_3 := blk_frozen BK109.out 3; have hfz56_4 := blk_frozen BK109.out 4))
                 go_roundg k2
                 case measure => have := HJ11.out; have := HK2.out; omega
                 case rel => exact ⟨(wrap64 (x6_2 + 1)), (wrap64 (x31_2 + 1)), (x109000_2), (x109003_2), (x109004_2), (x110001_2), (y127), (x110003_2), (x110004_2), (u110001), (.slice Ao55 y127.length co55), (by first | rfl), (by first | rfl), H', ⟨by have := HJ11.out; have := HK2.out; omega⟩, ⟨by exact Kd.Q_mono (Kd.Q_far (p := ⟨gb109, 2, none⟩) (Kd.Q_types HO_29.out BK109.out (by decide)) (fun _ hk => hk.2) (.slice Ao55 y127.length co55)) (fun _ hk => ⟨hk.1.1, hk.1.2⟩)⟩, ⟨by exact Kd.R_mono (Kd.R_far (p := ⟨gb109, 2, none⟩) (Kd.R_types HO_110001.out BK109.out (by decide)) (fun _ hk => hk.2) (.slice Ao55 y127.length co55)) (fun _ hk => ⟨hk.1.1, hk.1.2⟩)⟩, ⟨by exact Kd.R_mono (Kd.R_far (p := ⟨gb109, 2, none⟩) (Kd.R_types HO129.out BK109.out (by decide)) (fun _ hk => hk.2) (.slice Ao55 y127.length co55)) (fun _ hk => ⟨hk.1.1, hk.1.2⟩)⟩, ⟨by refine blk_far ?_ NB108_109.out _; exact BK108.out⟩, ⟨by refine blk_put (cs := #[.string x110000_11, u110001, u110002, .bool x110003_2, .bool x110004_2]) ?_ 2 _ rfl; exact BK109.out⟩, ⟨by repeat (with_reducible first | exact HB.out | refine below_set ?_ GE109.out)⟩⟩
                ·rw [if_neg c51] at H
                 exact absurd H (by simp)
               ·rw [if_neg c50] at H
                have c50b0 : ((bt (rdOf ByteArray.empty x5_11 x31_2) 0) == 46) = false := beq_eq_false_iff_ne.mpr c50
                have c50b1 : ((bt (rdOf ByteArray.empty x5_11 x31_2) 0) != 46) = true := bne_iff_ne.mpr c50
                simp only [Option.some.injEq, Prod.mk.injEq] at H
                obtain ⟨rfl, rfl, rfl, rfl, rfl, rfl⟩ := H
                have p123 : 0 ≤ (x31_2 : Int) := of_decide_eq_true (by first | (with_reducible assumption))
                have q123 : x31_2 < (x5_11.length : Int) := of_decide_eq_true (by first | (with_reducible assumption))
                obtain ⟨ad123, e123, hx123_0⟩ := Kd.at_string (Kd.Q_reads' HO_29.out).2.2 x31_2 p123 q123
                cases e123
                replace p123 := eq_true p123
                replace q123 := eq_true q123
                have p41 : 0 ≤ (0 : Int) := (by omega)
                have q41 : 0 < (rdOf ByteArray.empty x5_11 x31_2).size := (by have : (0 : Int) < ((rdOf ByteArray.empty x5_11 x31_2).size : Int) := of_decide_eq_true (by first | (with_reducible assumption)); omega)
                have hx41 : ∀ h : 0 < (rdOf ByteArray.empty x5_11 x31_2).size, (((rdOf ByteArray.empty x5_11 x31_2)[0]'h).toNat : Int) = bt (rdOf ByteArray.empty x5_11 x31_2) 0 := bt_at (rdOf ByteArray.empty x5_11 x31_2) 0
                clear p41
                have qi41 : (0 < ((rdOf ByteArray.empty x5_11 x31_2).size : Int)) = True := eq_true (of_decide_eq_true (by first | (with_reducible assumption)))
                replace q41 := eq_true q41
                have p49 : 0 ≤ (0 : Int) := (by omega)
                have q49 : 0 < (rdOf ByteArray.empty x5_11 x31_2).size := (by have : (0 : Int) < ((rdOf ByteArray.empty x5_11 x31_2).size : Int) := of_decide_eq_true (by first | (with_reducible assumption)); omega)
                have hx49 : ∀ h : 0 < (rdOf ByteArray.empty x5_11 x31_2).size, (((rdOf ByteArray.empty x5_11 x31_2)[0]'h).toNat : Int) = bt (rdOf ByteArray.empty x5_11 x31_2) 0 := bt_at (rdOf ByteArray.empty x5_11 x31_2) 0
                clear p49
                have qi49 : (0 < ((rdOf ByteArray.empty x5_11 x31_2).size : Int)) = True := eq_true (of_decide_eq_true (by first | (with_reducible assumption)))
                replace q49 := eq_true q49
                have hnb57 := NB108_109.out
                have hnc57 := NB109_108.out
                have hcz58_0 : wr.cell? ⟨gb108, 0, none⟩ = some (.string x109000_2) := (blk_cell BK108.out 0).trans rfl
                have hcz58_1 : wr.cell? ⟨gb108, 1, none⟩ = some (.slice none 0 0) := (blk_cell BK108.out 1).trans rfl
                have hcz58_2 : wr.cell? ⟨gb108, 2, none⟩ = some (.slice none 0 0) := (blk_cell BK108.out 2).trans rfl
                have hcz58_3 : wr.cell? ⟨gb108, 3, none⟩ = some (.bool x109003_2) := (blk_cell BK108.out 3).trans rfl
                have hcz58_4 : wr.cell? ⟨gb108, 4, none⟩ = some (.bool x109004_2) := (blk_cell BK108.out 4).trans rfl
                have hfz58_0 := blk_frozen BK108.out 0
                have hfz58_1 := blk_frozen BK108.out 1
                have hfz58_2 := blk_frozen BK108.out 2
                have hfz58_3 := blk_frozen BK108.out 3
                have hfz58_4 := blk_frozen BK108.out 4
                go_wp2
                refine bodyPost_ret (results_ct rfl _ _ gb108 80 #[.string (⟨#[]⟩ : ByteArray), .slice none 0 0, .slice none 0 0, .bool false, .bool false] (0, 0) _ rfl (by refine blk_put (cs := #[.string (⟨#[]⟩ : ByteArray), .slice none 0 0, .slice none 0 0, .bool false, .bool x109004_2]) ?_ 4 _ rfl; refine blk_put (cs := #[.string (⟨#[]⟩ : ByteArray), .slice none 0 0, .slice none 0 0, .bool x109003_2, .bool x109004_2]) ?_ 3 _ rfl; refine blk_put (cs := #[.string (⟨#[]⟩ : ByteArray), .slice none 0 0, .slice none 0 0, .bool x109003_2, .bool x109004_2]) ?_ 2 _ rfl; refine blk_put (cs := #[.string (⟨#[]⟩ : ByteArray), .slice none 0 0, .slice none 0 0, .bool x109003_2, .bool x109004_2]) ?_ 1 _ rfl; refine blk_put (cs := #[.string x109000_2, .slice none 0 0, .slice none 0 0, .bool x109003_2, .bool x109004_2]) ?_ 0 _ rfl; exact BK108.out) Tryz.underlying80 rfl (by kernel_rfl)) rfl ?_
                exact ⟨_, _, by first | rfl, by exact Kd.R_nil _ _ _ _ _, by exact Kd.R_nil _ _ _ _ _, by repeat (with_reducible first | exact HB.out | refine below_set ?_ GE108.out)⟩
             ·rw [if_neg c40] at H
              exact absurd H (by simp)
          ·rw [if_neg c33] at H
           exact absurd H (by simp)
         ·rw [if_neg c32] at H
          exact absurd H (by simp)
        ·rw [if_neg c31] at H
         exact absurd H (by simp)
       ·rw [if_neg c30] at H
        have c30b0 : decide (x31_2 < (x5_11.length : Int)) = false := decide_eq_false c30
        clear c30
        by_cases c59 : x6_2 ≤ 8
        ·rw [if_pos c59] at H
         have c59b0 : decide (x6_2 ≤ 8) = true := decide_eq_true c59
         clear c59
         replace H := Option.bind_eq_some_iff.mp H
         obtain ⟨t122, A600, H⟩ := H
         replace H : (some (x110000_11, x110001_2, x110002_2, x110003_2, x110004_2, t122)) = some (r1, r2, r3, r4, r5, r6) := H
         have A60 := Aside0.mk A600
         clear A600
         simp only [Option.some.injEq, Prod.mk.injEq] at H
         obtain ⟨rfl, rfl, rfl, rfl, rfl, rfl⟩ := H
         try go_wp2
         have n0_ := Aside0.mk (Kd.Q_drew HO_29.out)
         have n1_ := Aside0.mk (Kd.R_drew HO_110001.out)
         have n2_ := Aside0.mk (Kd.R_drew HO_110002.out)
         have n3_ := Aside0.mk (blk_drew BK108.out)
         have n4_ := Aside0.mk (blk_drew BK109.out)
         have n5_ := Aside0.mk (below_drew1 HB.out)
         clear HO_29
         clear HO_110001
         clear HO_110002
         clear BK108
         clear BK109
         clear HB
         have HO_29 := n0_
         have HO_110001 := n1_
         have HO_110002 := n2_
         have BK108 := n3_
         have BK109 := n4_
         have HB := n5_
         clear n0_ n1_ n2_ n3_ n4_ n5_
         obtain ⟨Ao62, co62, eo62⟩ := Kd.R_slice HO_110001.out
         (first | subst eo62)
         obtain ⟨Ao63, co63, eo63⟩ := Kd.R_slice HO_110002.out
         (first | subst eo63)
         refine start_ (n := 9) (S := fun w' => w'.cell? ⟨gb109, 0, none⟩ = some (.string x110000_11) ∧ w'.cell? ⟨gb109, 1, none⟩ = some (.slice Ao62 x110001_2.length co62) ∧ w'.cell? ⟨gb109, 2, none⟩ = some (.slice Ao63 x110002_2.length co63) ∧ w'.cell? ⟨gb109, 3, none⟩ = some (.bool x110003_2) ∧ w'.cell? ⟨gb109, 4, none⟩ = some (.bool x110004_2)) (ds := []) #[false, false, false, false, false, false, false, false, false] (by kernel_rfl) rfl rfl ⟨(blk_cell BK109.out 0).trans rfl, (blk_cell BK109.out 1).trans rfl, (blk_cell BK109.out 2).trans rfl, (blk_cell BK109.out 3).trans rfl, (blk_cell BK109.out 4).trans rfl⟩ (fun hHeld => ?_); refine with_tabW selector_simple.tab25 selector_simple.bits25 (fun HT_ HW_ => ?_)
         generalize wr.drew = w61 at HO_29 HO_110001 HO_110002 BK108 BK109 HB hHeld ⊢
         refine pure_ (i := 1) (N := some 70) (v := ?_) (a' := ?_) #[false, true, false, false, false, false, false, false, false] rfl rfl (any_of HT_.out (by kernel_rfl)) (fun _ _ _ h => h) (Or.inl ⟨by rfl, ?_⟩) ?_ ?_
         rotate_left
         ·intro w'
          go_simp
          with_reducible rfl
         rotate_left
         ·simp only [Act.put, List.setIfInBounds_toArray, List.set_cons_zero, List.set_cons_succ, i64_w, i32_w]
          rfl
         refine pure_ (i := 2) (N := some 71) (v := ?_) (a' := ?_) #[false, true, true, false, false, false, false, false, false] rfl rfl (any_of HT_.out (by kernel_rfl)) (fun _ _ _ h => h) (Or.inl ⟨by rfl, ?_⟩) ?_ ?_
         rotate_left
         ·intro w'
          go_simp
          with_reducible rfl
         rotate_left
         ·simp only [Act.put, List.setIfInBounds_toArray, List.set_cons_zero, List.set_cons_succ, i64_w, i32_w]
          rfl
         refine pure_ (i := 3) (N := some 72) (v := ?_) (a' := ?_) #[false, true, true, true, false, false, false, false, false] rfl rfl (any_of HT_.out (by kernel_rfl)) (fun _ _ _ h => h) (Or.inl ⟨by rfl, ?_⟩) ?_ ?_
         rotate_left
         ·intro w'
          go_simp
          with_reducible rfl
         rotate_left
         ·simp only [Act.put, List.setIfInBounds_toArray, List.set_cons_zero, List.set_cons_succ, i64_w, i32_w]
          rfl
         refine take_ (i := 0) (N := some 69) (v := ?_) (a' := ?_) #[true, true, true, true, false, false, false, false, false] rfl rfl (take_ofW HT_.out HW_.out (by kernel_rfl)) (fun _ _ _ h => h) (Or.inl ⟨by rfl, ?_⟩) hHeld ?_ ?_
         rotate_left
         ·rintro w' ⟨s0, s1, s2, s3, s4⟩
          go_simp
          with_reducible rfl
         rotate_left
         ·simp only [Act.put, List.setIfInBounds_toArray, List.set_cons_zero, List.set_cons_succ, i64_w, i32_w]
          rfl
         refine take_ (i := 4) (N := some 73) (v := ?_) (a' := ?_) #[true, true, true, true, true, false, false, false, false] rfl rfl (take_ofW HT_.out HW_.out (by kernel_rfl)) (fun _ _ _ h => h) (Or.inl ⟨by rfl, ?_⟩) hHeld ?_ ?_
         rotate_left
         ·rintro w' ⟨s0, s1, s2, s3, s4⟩
          go_simp
          with_reducible rfl
         rotate_left
         ·simp only [Act.put, List.setIfInBounds_toArray, List.set_cons_zero, List.set_cons_succ, i64_w, i32_w]
          rfl
         refine one_ (i := 5) (N := some 74) #[true, true, true, true, true, true, false, false, false] rfl rfl (one_of HT_.out (by kernel_rfl)) (by decide) (fun K hK => ?_)
         refine goes_ Tryz.func52 (by kernel_rfl) rfl #[.agg #[.string x110000_11, .slice Ao62 x110001_2.length co62, .slice Ao63 x110002_2.length co63, .bool x110003_2, .bool x110004_2]] (by rfl) rfl rfl (by (try simp only [List.map_toArray, List.map_cons, List.map_nil]); first | rfl) ?_
         with_reducible refine (selector_Simple_may.calls x110000_11 _ _ x110001_2 _ _ x110002_2 x110003_2 x110004_2 t122 _ ?side1 ?side2 ?side3 ?side4 A60.out).mono ?_
         (case side1 => repeat (first | exact (Kd.R_reads' HO_110001.out).2.2))
         (case side2 => exact (Kd.R_reads' HO_110001.out).2.1)
         (case side3 => repeat (first | exact (Kd.R_reads' HO_110002.out).2.2))
         (case side4 => exact (Kd.R_reads' HO_110002.out).2.1)
         rintro e w64 ⟨rfl, hb⟩
         refine ⟨_, rfl, ?_⟩
         have n0_ := Aside0.mk (Kd.Q_below HO_29.out hb)
         have n1_ := Aside0.mk (Kd.R_below HO_110001.out hb)
         have n2_ := Aside0.mk (Kd.R_below HO_110002.out hb)
         have n3_ := Aside0.mk (blk_below (g := gb108) (o := .cells #[.string x109000_2, .slice none 0 0, .slice none 0 0, .bool x109003_2, .bool x109004_2] 80 (0, 0)) BK108.out hb)
         have n4_ := Aside0.mk (blk_below (g := gb109) (o := .cells #[.string x110000_11, .slice Ao62 x110001_2.length co62, .slice Ao63 x110002_2.length co63, .bool x110003_2, .bool x110004_2] 80 (0, 0)) BK109.out hb)
         have n5_ := Aside0.mk (below_step HB.out hb)
         clear HO_29
         clear HO_110001
         clear HO_110002
         clear BK108
         clear BK109
         clear HB
         have HO_29 := n0_
         have HO_110001 := n1_
         have HO_110002 := n2_
         have BK108 := n3_
         have BK109 := n4_
         have HB := n5_
         clear n0_ n1_ n2_ n3_ n4_ n5_
         (try clear hb)
         (try clear hb2)
         (try clear hk)
         (try clear hi)
         refine hK.out _ _ ⟨(blk_cell BK109.out 0).trans rfl, (blk_cell BK109.out 1).trans rfl, (blk_cell BK109.out 2).trans rfl, (blk_cell BK109.out 3).trans rfl, (blk_cell BK109.out 4).trans rfl⟩ (fun hHeld => ?_)
         clear hK K
         refine norm_ (a' := ?_) ?_ ?_
         rotate_left
         ·show Act.put _ (some 74) _ = _
          simp only [Act.put, List.setIfInBounds_toArray, List.set_cons_zero, List.set_cons_succ, i64_w, i32_w]
          rfl
         refine pure_ (i := 6) (N := some 75) (v := ?_) (a' := ?_) #[true, true, true, true, true, true, true, false, false] rfl rfl (any_of HT_.out (by kernel_rfl)) (fun _ _ _ h => h) (Or.inl ⟨by rfl, ?_⟩) ?_ ?_
         rotate_left
         ·intro w'
          go_simp
          with_reducible rfl
         rotate_left
         ·simp only [Act.put, List.setIfInBounds_toArray, List.set_cons_zero, List.set_cons_succ, i64_w, i32_w]
          rfl
         refine one_ (i := 7) (N := none) #[true, true, true, true, true, true, true, true, false] rfl rfl (one_of HT_.out (by kernel_rfl)) (by decide) (fun K hK => ?_)
         have hs65 : w64.cell? ⟨gb108, 0, none⟩ = some (.string x109000_2) := (blk_cell BK108.out 0).trans rfl
         have hfs65 := blk_frozen BK108.out 0
         have hns65_1 := NB109_108.out
         have hms65_1 := NB108_109.out
         have hs66 : w64.cell? ⟨gb108, 1, none⟩ = some (.slice none 0 0) := (blk_cell BK108.out 1).trans rfl
         have hfs66 := blk_frozen BK108.out 1
         have hns66_1 := NB109_108.out
         have hms66_1 := NB108_109.out
         have hs67 : w64.cell? ⟨gb108, 2, none⟩ = some (.slice none 0 0) := (blk_cell BK108.out 2).trans rfl
         have hfs67 := blk_frozen BK108.out 2
         have hns67_1 := NB109_108.out
         have hms67_1 := NB108_109.out
         have hs68 : w64.cell? ⟨gb108, 3, none⟩ = some (.bool x109003_2) := (blk_cell BK108.out 3).trans rfl
         have hfs68 := blk_frozen BK108.out 3
         have hns68_1 := NB109_108.out
         have hms68_1 := NB108_109.out
         have hs69 : w64.cell? ⟨gb108, 4, none⟩ = some (.bool x109004_2) := (blk_cell BK108.out 4).trans rfl
         have hfs69 := blk_frozen BK108.out 4
         have hns69_1 := NB109_108.out
         have hms69_1 := NB108_109.out
         refine skip_ (w1 := ?_) (by rfl) rfl ?_ ?_
         rotate_left
         ·go_simp
          rfl
         refine hK.out _ _ ⟨((cell_far (p := ⟨gb108, _, none⟩) NB109_108.out _).trans (((cell_far (p := ⟨gb108, _, none⟩) NB109_108.out _).trans (((cell_far (p := ⟨gb108, _, none⟩) NB109_108.out _).trans (((cell_far (p := ⟨gb108, _, none⟩) NB109_108.out _).trans (((cell_far (p := ⟨gb108, _, none⟩) NB109_108.out _).trans (hHeld.1)))))))))), ((cell_far (p := ⟨gb108, _, none⟩) NB109_108.out _).trans (((cell_far (p := ⟨gb108, _, none⟩) NB109_108.out _).trans (((cell_far (p := ⟨gb108, _, none⟩) NB109_108.out _).trans (((cell_far (p := ⟨gb108, _, none⟩) NB109_108.out _).trans (((cell_far (p := ⟨gb108, _, none⟩) NB109_108.out _).trans (hHeld.2.1)))))))))), ((cell_far (p := ⟨gb108, _, none⟩) NB109_108.out _).trans (((cell_far (p := ⟨gb108, _, none⟩) NB109_108.out _).trans (((cell_far (p := ⟨gb108, _, none⟩) NB109_108.out _).trans (((cell_far (p := ⟨gb108, _, none⟩) NB109_108.out _).trans (((cell_far (p := ⟨gb108, _, none⟩) NB109_108.out _).trans (hHeld.2.2.1)))))))))), ((cell_far (p := ⟨gb108, _, none⟩) NB109_108.out _).trans (((cell_far (p := ⟨gb108, _, none⟩) NB109_108.out _).trans (((cell_far (p := ⟨gb108, _, none⟩) NB109_108.out _).trans (((cell_far (p := ⟨gb108, _, none⟩) NB109_108.out _).trans (((cell_far (p := ⟨gb108, _, none⟩) NB109_108.out _).trans (hHeld.2.2.2.1)))))))))), ((cell_far (p := ⟨gb108, _, none⟩) NB109_108.out _).trans (((cell_far (p := ⟨gb108, _, none⟩) NB109_108.out _).trans (((cell_far (p := ⟨gb108, _, none⟩) NB109_108.out _).trans (((cell_far (p := ⟨gb108, _, none⟩) NB109_108.out _).trans (((cell_far (p := ⟨gb108, _, none⟩) NB109_108.out _).trans (hHeld.2.2.2.2))))))))))⟩ (fun hHeld => ?_)
         clear hK K
         refine pure_ (i := 8) (N := some 3) (v := ?_) (a' := ?_) #[true, true, true, true, true, true, true, true, true] rfl rfl (any_of HT_.out (by kernel_rfl)) (fun _ _ _ h => h) (Or.inl ⟨by rfl, ?_⟩) ?_ ?_
         rotate_left
         ·intro w'
          go_simp
          with_reducible rfl
         rotate_left
         ·simp only [Act.put, List.setIfInBounds_toArray, List.set_cons_zero, List.set_cons_succ, i64_w, i32_w]
          rfl
         refine done_ (done_of HT_.out (by kernel_rfl)) ?_
         try go_wp2
         refine bodyPost_ret (results_ct rfl _ _ gb108 80 #[.string x110000_11, .slice Ao62 x110001_2.length co62, .slice Ao63 x110002_2.length co63, .bool x110003_2, .bool x110004_2] (0, 0) _ rfl (by refine blk_put (cs := #[.string x110000_11, .slice Ao62 x110001_2.length co62, .slice Ao63 x110002_2.length co63, .bool x110003_2, .bool x109004_2]) ?_ 4 _ rfl; refine blk_put (cs := #[.string x110000_11, .slice Ao62 x110001_2.length co62, .slice Ao63 x110002_2.length co63, .bool x109003_2, .bool x109004_2]) ?_ 3 _ rfl; refine blk_put (cs := #[.string x110000_11, .slice Ao62 x110001_2.length co62, .slice none 0 0, .bool x109003_2, .bool x109004_2]) ?_ 2 _ rfl; refine blk_put (cs := #[.string x110000_11, .slice none 0 0, .slice none 0 0, .bool x109003_2, .bool x109004_2]) ?_ 1 _ rfl; refine blk_put (cs := #[.string x109000_2, .slice none 0 0, .slice none 0 0, .bool x109003_2, .bool x109004_2]) ?_ 0 _ rfl; exact BK108.out) Tryz.underlying80 rfl (by kernel_rfl)) rfl ?_
         exact ⟨_, _, by first | rfl, by exact Kd.R_mono (Kd.R_far (p := ⟨gb108, 4, none⟩) (Kd.R_far (p := ⟨gb108, 3, none⟩) (Kd.R_far (p := ⟨gb108, 2, none⟩) (Kd.R_far (p := ⟨gb108, 1, none⟩) (Kd.R_far (p := ⟨gb108, 0, none⟩) (Kd.R_types HO_110001.out BK108.out (by decide)) (fun _ hk => hk.2) (.string x110000_11)) (fun _ hk => hk.2) (.slice Ao62 x110001_2.length co62)) (fun _ hk => hk.2) (.slice Ao63 x110002_2.length co63)) (fun _ hk => hk.2) (.bool x110003_2)) (fun _ hk => hk.2) (.bool x110004_2)) (fun _ hk => hk.1.2), by exact Kd.R_mono (Kd.R_far (p := ⟨gb108, 4, none⟩) (Kd.R_far (p := ⟨gb108, 3, none⟩) (Kd.R_far (p := ⟨gb108, 2, none⟩) (Kd.R_far (p := ⟨gb108, 1, none⟩) (Kd.R_far (p := ⟨gb108, 0, none⟩) (Kd.R_types HO_110002.out BK108.out (by decide)) (fun _ hk => hk.2) (.string x110000_11)) (fun _ hk => hk.2) (.slice Ao62 x110001_2.length co62)) (fun _ hk => hk.2) (.slice Ao63 x110002_2.length co63)) (fun _ hk => hk.2) (.bool x110003_2)) (fun _ hk => hk.2) (.bool x110004_2)) (fun _ hk => hk.1.2), by repeat (with_reducible first | exact HB.out | refine below_set ?_ GE108.out)⟩
        ·rw [if_neg c59] at H
         have c59b0 : decide (x6_2 ≤ 8) = false := decide_eq_false c59
         clear c59
         simp only [Option.some.injEq, Prod.mk.injEq] at H
         obtain ⟨rfl, rfl, rfl, rfl, rfl, rfl⟩ := H
         try go_wp2
         have n0_ := Aside0.mk (Kd.Q_drew HO_29.out)
         have n1_ := Aside0.mk (Kd.R_drew HO_110001.out)
         have n2_ := Aside0.mk (Kd.R_drew HO_110002.out)
         have n3_ := Aside0.mk (blk_drew BK108.out)
         have n4_ := Aside0.mk (blk_drew BK109.out)
         have n5_ := Aside0.mk (below_drew1 HB.out)
         clear HO_29
         clear HO_110001
         clear HO_110002
         clear BK108
         clear BK109
         clear HB
         have HO_29 := n0_
         have HO_110001 := n1_
         have HO_110002 := n2_
         have BK108 := n3_
         have BK109 := n4_
         have HB := n5_
         clear n0_ n1_ n2_ n3_ n4_ n5_
         obtain ⟨Ao72, co72, eo72⟩ := Kd.R_slice HO_110001.out
         (first | subst eo72)
         obtain ⟨Ao74, co74, eo74⟩ := Kd.R_slice HO_110002.out
         (first | subst eo74)
         refine start_ (n := 9) (S := fun w' => w'.cell? ⟨gb109, 0, none⟩ = some (.string x110000_11) ∧ w'.cell? ⟨gb109, 1, none⟩ = some (.slice Ao72 x110001_2.length co72) ∧ w'.cell? ⟨gb109, 2, none⟩ = some (.slice Ao74 x110002_2.length co74) ∧ w'.cell? ⟨gb109, 3, none⟩ = some (.bool x110003_2) ∧ w'.cell? ⟨gb109, 4, none⟩ = some (.bool x110004_2)) (ds := []) #[false, false, false, false, false, false, false, false, false] (by kernel_rfl) rfl rfl ⟨(blk_cell BK109.out 0).trans rfl, (blk_cell BK109.out 1).trans rfl, (blk_cell BK109.out 2).trans rfl, (blk_cell BK109.out 3).trans rfl, (blk_cell BK109.out 4).trans rfl⟩ (fun hHeld => ?_); refine with_tabW selector_simple.tab25 selector_simple.bits25 (fun HT_ HW_ => ?_)
         generalize wr.drew = w70 at HO_29 HO_110001 HO_110002 BK108 BK109 HB hHeld ⊢
         refine pure_ (i := 1) (N := some 70) (v := ?_) (a' := ?_) #[false, true, false, false, false, false, false, false, false] rfl rfl (any_of HT_.out (by kernel_rfl)) (fun _ _ _ h => h) (Or.inl ⟨by rfl, ?_⟩) ?_ ?_
         rotate_left
         ·intro w'
          go_simp
          with_reducible rfl
         rotate_left
         ·simp only [Act.put, List.setIfInBounds_toArray, List.set_cons_zero, List.set_cons_succ, i64_w, i32_w]
          rfl
         refine pure_ (i := 2) (N := some 71) (v := ?_) (a' := ?_) #[false, true, true, false, false, false, false, false, false] rfl rfl (any_of HT_.out (by kernel_rfl)) (fun _ _ _ h => h) (Or.inl ⟨by rfl, ?_⟩) ?_ ?_
         rotate_left
         ·intro w'
          go_simp
          with_reducible rfl
         rotate_left
         ·simp only [Act.put, List.setIfInBounds_toArray, List.set_cons_zero, List.set_cons_succ, i64_w, i32_w]
          rfl
         refine pure_ (i := 3) (N := some 72) (v := ?_) (a' := ?_) #[false, true, true, true, false, false, false, false, false] rfl rfl (any_of HT_.out (by kernel_rfl)) (fun _ _ _ h => h) (Or.inl ⟨by rfl, ?_⟩) ?_ ?_
         rotate_left
         ·intro w'
          go_simp
          with_reducible rfl
         rotate_left
         ·simp only [Act.put, List.setIfInBounds_toArray, List.set_cons_zero, List.set_cons_succ, i64_w, i32_w]
          rfl
         refine pure_ (i := 4) (N := some 73) (v := undef) (a' := ?_) #[false, true, true, true, true, false, false, false, false] rfl rfl (any_of HT_.out (by kernel_rfl)) (fun _ _ _ h => h) (Or.inr ⟨by rfl, rfl⟩) ?_ ?_
         rotate_left
         ·simp only [Act.put, List.setIfInBounds_toArray, List.set_cons_zero, List.set_cons_succ, i64_w, i32_w]
          rfl
         refine pure_ (i := 5) (N := some 74) (v := undef) (a' := ?_) #[false, true, true, true, true, true, false, false, false] rfl rfl (any_of HT_.out (by kernel_rfl)) (fun _ _ _ h => h) (Or.inr ⟨by rfl, rfl⟩) ?_ ?_
         rotate_left
         ·simp only [Act.put, List.setIfInBounds_toArray, List.set_cons_zero, List.set_cons_succ, i64_w, i32_w]
          rfl
         refine pure_ (i := 6) (N := some 75) (v := ?_) (a' := ?_) #[false, true, true, true, true, true, true, false, false] rfl rfl (any_of HT_.out (by kernel_rfl)) (fun _ _ _ h => h) (Or.inl ⟨by rfl, ?_⟩) ?_ ?_
         rotate_left
         ·intro w'
          go_simp
          with_reducible rfl
         rotate_left
         ·simp only [Act.put, List.setIfInBounds_toArray, List.set_cons_zero, List.set_cons_succ, i64_w, i32_w]
          rfl
         refine take_ (i := 0) (N := some 69) (v := ?_) (a' := ?_) #[true, true, true, true, true, true, true, false, false] rfl rfl (take_ofW HT_.out HW_.out (by kernel_rfl)) (fun _ _ _ h => h) (Or.inl ⟨by rfl, ?_⟩) hHeld ?_ ?_
         rotate_left
         ·rintro w' ⟨s0, s1, s2, s3, s4⟩
          go_simp
          with_reducible rfl
         rotate_left
         ·simp only [Act.put, List.setIfInBounds_toArray, List.set_cons_zero, List.set_cons_succ, i64_w, i32_w]
          rfl
         refine one_ (i := 7) (N := none) #[true, true, true, true, true, true, true, true, false] rfl rfl (one_of HT_.out (by kernel_rfl)) (by decide) (fun K hK => ?_)
         have hs71 : w70.cell? ⟨gb108, 0, none⟩ = some (.string x109000_2) := (blk_cell BK108.out 0).trans rfl
         have hfs71 := blk_frozen BK108.out 0
         have hns71_1 := NB109_108.out
         have hms71_1 := NB108_109.out
         have hs73 : w70.cell? ⟨gb108, 1, none⟩ = some (.slice none 0 0) := (blk_cell BK108.out 1).trans rfl
         have hfs73 := blk_frozen BK108.out 1
         have hns73_1 := NB109_108.out
         have hms73_1 := NB108_109.out
         have hs75 : w70.cell? ⟨gb108, 2, none⟩ = some (.slice none 0 0) := (blk_cell BK108.out 2).trans rfl
         have hfs75 := blk_frozen BK108.out 2
         have hns75_1 := NB109_108.out
         have hms75_1 := NB108_109.out
         have hs76 : w70.cell? ⟨gb108, 3, none⟩ = some (.bool x109003_2) := (blk_cell BK108.out 3).trans rfl
         have hfs76 := blk_frozen BK108.out 3
         have hns76_1 := NB109_108.out
         have hms76_1 := NB108_109.out
         have hs77 : w70.cell? ⟨gb108, 4, none⟩ = some (.bool x109004_2) := (blk_cell BK108.out 4).trans rfl
         have hfs77 := blk_frozen BK108.out 4
         have hns77_1 := NB109_108.out
         have hms77_1 := NB108_109.out
         refine skip_ (w1 := ?_) (by rfl) rfl ?_ ?_
         rotate_left
         ·go_simp
          rfl
         refine hK.out _ _ ⟨((cell_far (p := ⟨gb108, _, none⟩) NB109_108.out _).trans (((cell_far (p := ⟨gb108, _, none⟩) NB109_108.out _).trans (((cell_far (p := ⟨gb108, _, none⟩) NB109_108.out _).trans (((cell_far (p := ⟨gb108, _, none⟩) NB109_108.out _).trans (((cell_far (p := ⟨gb108, _, none⟩) NB109_108.out _).trans (hHeld.1)))))))))), ((cell_far (p := ⟨gb108, _, none⟩) NB109_108.out _).trans (((cell_far (p := ⟨gb108, _, none⟩) NB109_108.out _).trans (((cell_far (p := ⟨gb108, _, none⟩) NB109_108.out _).trans (((cell_far (p := ⟨gb108, _, none⟩) NB109_108.out _).trans (((cell_far (p := ⟨gb108, _, none⟩) NB109_108.out _).trans (hHeld.2.1)))))))))), ((cell_far (p := ⟨gb108, _, none⟩) NB109_108.out _).trans (((cell_far (p := ⟨gb108, _, none⟩) NB109_108.out _).trans (((cell_far (p := ⟨gb108, _, none⟩) NB109_108.out _).trans (((cell_far (p := ⟨gb108, _, none⟩) NB109_108.out _).trans (((cell_far (p := ⟨gb108, _, none⟩) NB109_108.out _).trans (hHeld.2.2.1)))))))))), ((cell_far (p := ⟨gb108, _, none⟩) NB109_108.out _).trans (((cell_far (p := ⟨gb108, _, none⟩) NB109_108.out _).trans (((cell_far (p := ⟨gb108, _, none⟩) NB109_108.out _).trans (((cell_far (p := ⟨gb108, _, none⟩) NB109_108.out _).trans (((cell_far (p := ⟨gb108, _, none⟩) NB109_108.out _).trans (hHeld.2.2.2.1)))))))))), ((cell_far (p := ⟨gb108, _, none⟩) NB109_108.out _).trans (((cell_far (p := ⟨gb108, _, none⟩) NB109_108.out _).trans (((cell_far (p := ⟨gb108, _, none⟩) NB109_108.out _).trans (((cell_far (p := ⟨gb108, _, none⟩) NB109_108.out _).trans (((cell_far (p := ⟨gb108, _, none⟩) NB109_108.out _).trans (hHeld.2.2.2.2))))))))))⟩ (fun hHeld => ?_)
         clear hK K
         refine pure_ (i := 8) (N := some 3) (v := ?_) (a' := ?_) #[true, true, true, true, true, true, true, true, true] rfl rfl (any_of HT_.out (by kernel_rfl)) (fun _ _ _ h => h) (Or.inl ⟨by rfl, ?_⟩) ?_ ?_
         rotate_left
         ·intro w'
          go_simp
          with_reducible rfl
         rotate_left
         ·simp only [Act.put, List.setIfInBounds_toArray, List.set_cons_zero, List.set_cons_succ, i64_w, i32_w]
          rfl
         refine done_ (done_of HT_.out (by kernel_rfl)) ?_
         try go_wp2
         refine bodyPost_ret (results_ct rfl _ _ gb108 80 #[.string x110000_11, .slice Ao72 x110001_2.length co72, .slice Ao74 x110002_2.length co74, .bool x110003_2, .bool x110004_2] (0, 0) _ rfl (by refine blk_put (cs := #[.string x110000_11, .slice Ao72 x110001_2.length co72, .slice Ao74 x110002_2.length co74, .bool x110003_2, .bool x109004_2]) ?_ 4 _ rfl; refine blk_put (cs := #[.string x110000_11, .slice Ao72 x110001_2.length co72, .slice Ao74 x110002_2.length co74, .bool x109003_2, .bool x109004_2]) ?_ 3 _ rfl; refine blk_put (cs := #[.string x110000_11, .slice Ao72 x110001_2.length co72, .slice none 0 0, .bool x109003_2, .bool x109004_2]) ?_ 2 _ rfl; refine blk_put (cs := #[.string x110000_11, .slice none 0 0, .slice none 0 0, .bool x109003_2, .bool x109004_2]) ?_ 1 _ rfl; refine blk_put (cs := #[.string x109000_2, .slice none 0 0, .slice none 0 0, .bool x109003_2, .bool x109004_2]) ?_ 0 _ rfl; exact BK108.out) Tryz.underlying80 rfl (by kernel_rfl)) rfl ?_
         exact ⟨_, _, by first | rfl, by exact Kd.R_mono (Kd.R_far (p := ⟨gb108, 4, none⟩) (Kd.R_far (p := ⟨gb108, 3, none⟩) (Kd.R_far (p := ⟨gb108, 2, none⟩) (Kd.R_far (p := ⟨gb108, 1, none⟩) (Kd.R_far (p := ⟨gb108, 0, none⟩) (Kd.R_types HO_110001.out BK108.out (by decide)) (fun _ hk => hk.2) (.string x110000_11)) (fun _ hk => hk.2) (.slice Ao72 x110001_2.length co72)) (fun _ hk => hk.2) (.slice Ao74 x110002_2.length co74)) (fun _ hk => hk.2) (.bool x110003_2)) (fun _ hk => hk.2) (.bool x110004_2)) (fun _ hk => hk.1.2), by exact Kd.R_mono (Kd.R_far (p := ⟨gb108, 4, none⟩) (Kd.R_far (p := ⟨gb108, 3, none⟩) (Kd.R_far (p := ⟨gb108, 2, none⟩) (Kd.R_far (p := ⟨gb108, 1, none⟩) (Kd.R_far (p := ⟨gb108, 0, none⟩) (Kd.R_types HO_110002.out BK108.out (by decide)) (fun _ hk => hk.2) (.string x110000_11)) (fun _ hk => hk.2) (.slice Ao72 x110001_2.length co72)) (fun _ hk => hk.2) (.slice Ao74 x110002_2.length co74)) (fun _ hk => hk.2) (.bool x110003_2)) (fun _ hk => hk.2) (.bool x110004_2)) (fun _ hk => hk.1.2), by repeat (with_reducible first | exact HB.out | refine below_set ?_ GE108.out)⟩
  ·rw [if_neg c9] at H
   exact absurd H (by simp)

end Go.Proofs.YtolfpgccebdlpaaGreatDoor.HT
namespace Go.Proofs.YtolfpgccebdlpaaGreatDoor.HT
open Go.RowKit Go.Proofs.YtolfpgccebdlpaaGreatDoorW.PrintWords Go.Proofs.YtolfpgccebdlpaaGreatDoorW.PrintLast Go.Proofs.YtolfpgccebdlpaaGreatDoorW.PrintMore
attribute [local go_sem] max2_int min2_int max_two min_two max_three min_three max_four min_four   -- for this text's walks alone
set_option linter.unusedVariables false
set_option linter.unusedSimpArgs false

/-! ### selector_Read: function 12 -/
mutual
def selector_Read.l0 : Nat → Bool → Bool → List ByteArray → Int → Int → List (S80) → List Bool → Option ((List (S80)) × List Bool × Bool)
 | 0, _, _, _, _, _, _, _ => none
 | k + 1, x5, x6, x14, x15, x16, x132000, x132001 => if x16 < x15 then (if 0 ≤ x16 then (if x16 < (x14.length : Int) then (if (rdOf ByteArray.empty x14 x16).toList = ([62] : List UInt8) then (if x5 = true then (some (([] : List (S80)), ([] : List Bool), false)) else (if x6 = true then (some (([] : List (S80)), ([] : List Bool), false)) else (selector_Read.l0 k true x6 x14 x15 (wrap64 (x16 + 1)) x132000 x132001))) else ((selector_simple.f k (rdOf ByteArray.empty x14 x16)).bind fun bt138 => (if bt138.2.2.2.2.2 = true then (selector_Read.j1 k x5 x6 x14 x15 x16 ((x132000.length : Int) == 8) x132000 x132001 bt138.1 bt138.2.1 bt138.2.2.1 bt138.2.2.2.1 bt138.2.2.2.2.1) else (selector_Read.j1 k x5 x6 x14 x15 x16 true x132000 x132001 bt138.1 bt138.2.1 bt138.2.2.1 bt138.2.2.2.1 bt138.2.2.2.2.1)))) else (none)) else (none)) else (if x6 = true then (some (([] : List (S80)), ([] : List Bool), false)) else (if x5 = true then (some (([] : List (S80)), ([] : List Bool), false)) else (some (x132000, x132001, true))))
def selector_Read.j1 : Nat → Bool → Bool → List ByteArray → Int → Int → Bool → List (S80) → List Bool → ByteArray → List ByteArray → List ByteArray → Bool → Bool → Option ((List (S80)) × List Bool × Bool)
 | 0, _, _, _, _, _, _, _, _, _, _, _, _, _ => none
 | k + 1, x5, x6, x14, x15, x16, x39, x132000, x132001, x149000, x149001, x149002, x149003, x149004 => if x39 = true then (some (([] : List (S80)), ([] : List Bool), false)) else (if x6 = true then (if x132000.length < 1954687338268 then (selector_Read.l0 k false false x14 x15 (wrap64 (x16 + 1)) (x132000 ++ [(⟨x149000, x149001, x149002, x149003, x149004⟩ : S80)]) x132001) else (none)) else (if x132001.length < 140737488355328 then (if x132000.length < 1954687338268 then (selector_Read.l0 k false false x14 x15 (wrap64 (x16 + 1)) (x132000 ++ [(⟨x149000, x149001, x149002, x149003, x149004⟩ : S80)]) (x132001 ++ [x5])) else (none)) else (none)))
end
def selector_Read.f (k : Nat) (a0 : ByteArray) : Option ((List (S80)) × List Bool × Bool) := (scan_Lower.f a0).bind fun t132 => ((strings_ReplaceAll.f t132 (⟨#[62]⟩ : ByteArray) (⟨#[32, 62, 32]⟩ : ByteArray)).bind fun t133 => ((scan_Words.f t133).bind fun t134 => (selector_Read.l0 k false true t134 (t134.length : Int) 0 ([] : List (S80)) ([] : List Bool))))
theorem selector_Read.mono_l : ∀ k, (∀ y0 y1 y2 y3 y4 y5 y6, LeO (selector_Read.l0 k y0 y1 y2 y3 y4 y5 y6) (selector_Read.l0 (k + 1) y0 y1 y2 y3 y4 y5 y6)) ∧ (∀ y0 y1 y2 y3 y4 y5 y6 y7 y8 y9 y10 y11 y12, LeO (selector_Read.j1 k y0 y1 y2 y3 y4 y5 y6 y7 y8 y9 y10 y11 y12) (selector_Read.j1 (k + 1) y0 y1 y2 y3 y4 y5 y6 y7 y8 y9 y10 y11 y12))
 | 0 => ⟨fun _ _ _ _ _ _ _ r h => by simp [selector_Read.l0] at h, fun _ _ _ _ _ _ _ _ _ _ _ _ _ r h => by simp [selector_Read.j1] at h⟩
 | k + 1 => by
  obtain ⟨ih0, ih1⟩ := selector_Read.mono_l k
  refine ⟨?_, ?_⟩
  ·intro y0 y1 y2 y3 y4 y5 y6
   unfold selector_Read.l0
   repeat' first
   | (with_reducible exact ih0 _ _ _ _ _ _ _)
   | (with_reducible exact ih1 _ _ _ _ _ _ _ _ _ _ _ _ _)
   | (with_reducible exact selector_simple.mono _ _)
   | (with_reducible exact LeO.refl _)
   | (with_reducible exact LeO.none _)
   | (with_reducible refine LeO.ite ?_ ?_)
   | (with_reducible refine LeO.bind ?_ (fun _ => ?_))
   | exact ih0 _ _ _ _ _ _ _
   | exact ih1 _ _ _ _ _ _ _ _ _ _ _ _ _
   | exact selector_simple.mono _ _
   | exact LeO.none _
   | refine LeO.ite ?_ ?_
   | refine LeO.bind ?_ (fun _ => ?_)
  ·intro y0 y1 y2 y3 y4 y5 y6 y7 y8 y9 y10 y11 y12
   unfold selector_Read.j1
   repeat' first
   | (with_reducible exact ih0 _ _ _ _ _ _ _)
   | (with_reducible exact ih1 _ _ _ _ _ _ _ _ _ _ _ _ _)
   | (with_reducible exact selector_simple.mono _ _)
   | (with_reducible exact LeO.refl _)
   | (with_reducible exact LeO.none _)
   | (with_reducible refine LeO.ite ?_ ?_)
   | (with_reducible refine LeO.bind ?_ (fun _ => ?_))
   | exact ih0 _ _ _ _ _ _ _
   | exact ih1 _ _ _ _ _ _ _ _ _ _ _ _ _
   | exact selector_simple.mono _ _
   | exact LeO.none _
   | refine LeO.ite ?_ ?_
   | refine LeO.bind ?_ (fun _ => ?_)
theorem selector_Read.mono : ∀ a0 k, LeO (selector_Read.f k a0) (selector_Read.f (k + 1) a0) := by
 intro a0 k
 obtain ⟨ih0, ih1⟩ := selector_Read.mono_l k
 unfold selector_Read.f
 repeat' first
   | (with_reducible exact ih0 _ _ _ _ _ _ _)
   | (with_reducible exact ih1 _ _ _ _ _ _ _ _ _ _ _ _ _)
   | (with_reducible exact selector_simple.mono _ _)
   | (with_reducible exact LeO.refl _)
   | (with_reducible exact LeO.none _)
   | (with_reducible refine LeO.ite ?_ ?_)
   | (with_reducible refine LeO.bind ?_ (fun _ => ?_))
   | exact ih0 _ _ _ _ _ _ _
   | exact ih1 _ _ _ _ _ _ _ _ _ _ _ _ _
   | exact selector_simple.mono _ _
   | exact LeO.none _
   | refine LeO.ite ?_ ?_
   | refine LeO.bind ?_ (fun _ => ?_)
set_option maxHeartbeats 8000000 in
set_option maxRecDepth 100000 in
theorem selector_Read.calls (k : Nat) (a0 : ByteArray) (r1 : List (S80)) (r2 : List Bool) (r3 : Bool) (w : World) (h : selector_Read.f k a0 = some (r1, r2, r3)) (hmx : Go.Proofs.Sht.Env w) :
  Calls Tryz.prog 12 #[.string a0] w fun e w' => ∃ v0_ v1_ : Value, e = .returned (.tuple #[.agg #[v0_, v1_], .bool r3]) ∧ Kd.S k80 80 w' w.heap.size (fun _ => True) v0_ r1 ∧ Kd.R Kd.bool 4 w' w.heap.size (fun _ => True) v1_ r2 ∧ Below w.heap.size w w' := by
 have HMX := Aside0.mk hmx
 clear hmx
 have hu25 := Tryz.underlying25
 have hu80 := Tryz.underlying80
 have HB := Aside0.mk (Below.refl w.heap.size w)
 have H : ((scan_Lower.f a0).bind fun t132 => ((strings_ReplaceAll.f t132 (⟨#[62]⟩ : ByteArray) (⟨#[32, 62, 32]⟩ : ByteArray)).bind fun t133 => ((scan_Words.f t133).bind fun t134 => (selector_Read.l0 k false true t134 (t134.length : Int) 0 ([] : List (S80)) ([] : List Bool))))) = some (r1, r2, r3) := h
 clear h
 replace H := Option.bind_eq_some_iff.mp H
 obtain ⟨t132, A20, H⟩ := H
 replace H : ((strings_ReplaceAll.f t132 (⟨#[62]⟩ : ByteArray) (⟨#[32, 62, 32]⟩ : ByteArray)).bind fun t133 => ((scan_Words.f t133).bind fun t134 => (selector_Read.l0 k false true t134 (t134.length : Int) 0 ([] : List (S80)) ([] : List Bool)))) = some (r1, r2, r3) := H
 have A2 := Aside0.mk A20
 clear A20
 replace H := Option.bind_eq_some_iff.mp H
 obtain ⟨t133, A30, H⟩ := H
 replace H : ((scan_Words.f t133).bind fun t134 => (selector_Read.l0 k false true t134 (t134.length : Int) 0 ([] : List (S80)) ([] : List Bool))) = some (r1, r2, r3) := H
 have A3 := Aside0.mk A30
 clear A30
 replace H := Option.bind_eq_some_iff.mp H
 obtain ⟨t134, A40, H⟩ := H
 replace H : (selector_Read.l0 k false true t134 (t134.length : Int) 0 ([] : List (S80)) ([] : List Bool)) = some (r1, r2, r3) := H
 have A4 := Aside0.mk A40
 clear A40
 have H' := Aside0.mk H
 clear H
 go_enter Tryz.func12, Tryz.ntmps12
 go_wp2_with (first | ((with_reducible refine gate_dst (N := 2) rfl ?_); (try (refine gate_guard (by rfl) ?_; dsimp only)); refine box_event ?hg (N := 2) ?hd (cs := #[.slice none 0 0, .slice none 0 0]) (t := 25) ?hr ?_; (case hd => rfl); (case hg => rfl); (case hr => first | (go_simp; done)); intro gb130 hg w5 hbox hb; have n0_ := Aside0.mk (below_step HB.out hb); have n1_ := Aside0.mk (hbox); have n2_ := Aside0.mk ((by rw [hg]; exact (below_size HB.out) : w.heap.size ≤ gb130)); have n3_ := Aside0.mk ((by rw [hg]; exact (below_size HB.out) : w.heap.size ≤ gb130)); clear HB; have HB := n0_; have BK130 := n1_; have GW130 := n2_; have GE130 := n3_; clear n0_ n1_ n2_ n3_; clear hb hbox hg))
 go_step3
 go_wp2_with (first | ((with_reducible refine gate_dst (N := 4) rfl ?_); (try (refine gate_guard (by rfl) ?_; dsimp only)); refine box_event ?hg (N := 4) ?hd (cs := #[.slice none 0 0, .slice none 0 0]) (t := 25) ?hr ?_; (case hd => rfl); (case hg => rfl); (case hr => first | (go_simp; done)); intro gb131 hg w6 hbox hb; have n0_ := Aside0.mk (blk_below (g := gb130) (o := .cells #[.slice none 0 0, .slice none 0 0] 25 (0, 0)) BK130.out hb); have n1_ := Aside0.mk (below_step HB.out hb); have n2_ := Aside0.mk (hbox); have n3_ := Aside0.mk ((by rw [hg]; exact (below_size HB.out) : w.heap.size ≤ gb131)); have n4_ := Aside0.mk ((by rw [hg]; exact (below_size HB.out) : w.heap.size ≤ gb131)); have n5_ := Aside0.mk ((by rw [hg]; exact Nat.ne_of_lt (blk_lt (g := gb130) (o := .cells #[.slice none 0 0, .slice none 0 0] 25 (0, 0)) BK130.out) : gb130 ≠ gb131)); have n6_ := Aside0.mk ((by rw [hg]; exact Nat.ne_of_gt (blk_lt (g := gb130) (o := .cells #[.slice none 0 0, .slice none 0 0] 25 (0, 0)) BK130.out) : gb131 ≠ gb130)); clear BK130; clear HB; have BK130 := n0_; have HB := n1_; have BK131 := n2_; have GW131 := n3_; have GE131 := n4_; have NB130_131 := n5_; have NB131_130 := n6_; clear n0_ n1_ n2_ n3_ n4_ n5_ n6_; clear hb hbox hg))
 go_step3
 go_wp2_with (first | ((with_reducible refine gate_callee (f := 41) rfl ?_); refine goesL_ (some 12) rfl rfl Tryz.func41 (by kernel_rfl) rfl #[.string a0] rfl (by (try simp only [List.map_toArray, List.map_cons, List.map_nil]); first | rfl) ?_; (with_reducible refine (scan_Lower.calls a0 t132 _ A2.out).mono ?_); rintro e w7 ⟨rfl, hb⟩; refine ⟨_, rfl, ?_⟩; have n0_ := Aside0.mk (blk_below (g := gb130) (o := .cells #[.slice none 0 0, .slice none 0 0] 25 (0, 0)) BK130.out hb); have n1_ := Aside0.mk (blk_below (g := gb131) (o := .cells #[.slice none 0 0, .slice none 0 0] 25 (0, 0)) BK131.out hb); have n2_ := Aside0.mk (below_step HB.out hb); clear BK130; clear BK131; clear HB; have BK130 := n0_; have BK131 := n1_; have HB := n2_; clear n0_ n1_ n2_; (try clear hb); (try clear hb2); (try clear hk); (try clear hi)) | ((with_reducible refine gate_callee (f := 40) rfl ?_); refine goesL_ (some 13) rfl rfl Tryz.func40 (by kernel_rfl) rfl #[.string t132, .string (⟨#[62]⟩ : ByteArray), .string (⟨#[32, 62, 32]⟩ : ByteArray)] rfl (by (try simp only [List.map_toArray, List.map_cons, List.map_nil]); first | rfl) ?_; (with_reducible refine (strings_ReplaceAll.calls t132 (⟨#[62]⟩ : ByteArray) (⟨#[32, 62, 32]⟩ : ByteArray) t133 _ A3.out (HMX.out.below HB.out)).mono ?_); rintro e w8 ⟨rfl, hb⟩; refine ⟨_, rfl, ?_⟩; have n0_ := Aside0.mk (blk_below (g := gb130) (o := .cells #[.slice none 0 0, .slice none 0 0] 25 (0, 0)) BK130.out hb); have n1_ := Aside0.mk (blk_below (g := gb131) (o := .cells #[.slice none 0 0, .slice none 0 0] 25 (0, 0)) BK131.out hb); have n2_ := Aside0.mk (below_step HB.out hb); clear BK130; clear BK131; clear HB; have BK130 := n0_; have BK131 := n1_; have HB := n2_; clear n0_ n1_ n2_; (try clear hb); (try clear hb2); (try clear hk); (try clear hi)) | ((with_reducible refine gate_callee (f := 39) rfl ?_); refine goesL_ (some 14) rfl rfl Tryz.func39 (by kernel_rfl) rfl #[.string t133] rfl (by (try simp only [List.map_toArray, List.map_cons, List.map_nil]); first | rfl) ?_; (with_reducible refine (scan_Words.calls t133 t134 _ A4.out).mono ?_); rintro e w9 ⟨v135, rfl, ho0, hb⟩; refine ⟨_, rfl, ?_⟩; have n0_ := Aside0.mk (Kd.R_lower ho0 (below_size HB.out)); have n1_ := Aside0.mk (blk_below (g := gb130) (o := .cells #[.slice none 0 0, .slice none 0 0] 25 (0, 0)) BK130.out hb); have n2_ := Aside0.mk (blk_below (g := gb131) (o := .cells #[.slice none 0 0, .slice none 0 0] 25 (0, 0)) BK131.out hb); have n3_ := Aside0.mk (below_step HB.out hb); clear BK130; clear BK131; clear HB; have HO136 := n0_; have BK130 := n1_; have BK131 := n2_; have HB := n3_; clear n0_ n1_ n2_ n3_; (try clear hb); (try clear hb2); (try clear hk); (try clear hi); (try clear ho0); obtain ⟨Ao10, co10, eo10⟩ := Kd.R_slice HO136.out; subst eo10))
 go_loopg [5, 6, 16] k (fun kq v5 v6 v16 w' => ∃ (x5_1 : Bool) (x6_1 : Bool) (x16_1 : Int) (x132000_1 : List (S80)) (x132001_1 : List Bool) (u132000 : Value) (u132001 : Value), v5 = .bool x5_1 ∧ v6 = .bool x6_1 ∧ v16 = .int .i64 x16_1 ∧ Aside0 (selector_Read.l0 kq x5_1 x6_1 t134 (t134.length : Int) x16_1 x132000_1 x132001_1 = some (r1, r2, r3)) ∧ Aside0 (kq ≤ k) ∧ Aside0 (Kd.R Kd.string 9 w' w.heap.size (fun _ => True) (.slice Ao10 t134.length co10) t134) ∧ Aside0 (Kd.S k80 80 w' w.heap.size (fun k_ => some k_ ≠ ((.slice Ao10 t134.length co10) : Value).ownBlock) u132000 x132000_1) ∧ Aside0 (Kd.R Kd.bool 4 w' w.heap.size (fun _ => True) u132001 x132001_1) ∧ Aside0 (w'.heap[gb130]? = some (.cells #[(.slice none 0 0), (.slice none 0 0)] 25 (0, 0))) ∧ Aside0 (w'.heap[gb131]? = some (.cells #[u132000, u132001] 25 (0, 0))) ∧ Aside0 (Below w.heap.size w w'))
 case atStart => exact ⟨(false), (true), (0), (([] : List (S80))), (([] : List Bool)), (.slice none 0 0), (.slice none 0 0), (by first | rfl), (by first | rfl), (by first | rfl), H', ⟨Nat.le_refl _⟩, ⟨by exact HO136.out⟩, ⟨by exact Kd.S_nil _ _ _ _ _⟩, ⟨by exact Kd.R_nil _ _ _ _ _⟩, ⟨by exact BK130.out⟩, ⟨by exact BK131.out⟩, ⟨by exact HB.out⟩⟩
 case round =>
  clear H'
  try clear c1
  try clear p2
  try clear c3
  try clear c4
  obtain ⟨x5_1, x6_1, x16_1, x132000_1, x132001_1, u132000, u132001, rfl, rfl, rfl, HA, HK1, HO_14, HO_132000, HO_132001, BK130, BK131, HB⟩ := hrel
  cases gk with
  | zero => exact absurd HA.out (by simp [selector_Read.l0])
  | succ k1 =>
   have H := HA.out
   clear HA
   simp only [selector_Read.l0] at H
   by_cases c11 : x16_1 < (t134.length : Int)
   ·rw [if_pos c11] at H
    have c11b0 : decide (x16_1 < (t134.length : Int)) = true := decide_eq_true c11
    clear c11
    by_cases c12 : 0 ≤ x16_1
    ·rw [if_pos c12] at H
     have c12b0 : decide (0 ≤ x16_1) = true := decide_eq_true c12
     clear c12
     by_cases c13 : x16_1 < (t134.length : Int)
     ·rw [if_pos c13] at H
      have c13b0 : decide (x16_1 < (t134.length : Int)) = true := decide_eq_true c13
      clear c13
      by_cases c14 : (rdOf ByteArray.empty t134 x16_1).toList = ([62] : List UInt8)
      ·rw [if_pos c14] at H
       have c14b0 : ((rdOf ByteArray.empty t134 x16_1).toList == ([62] : List UInt8)) = true := beq_iff_eq.mpr c14
       have c14b1 : ((rdOf ByteArray.empty t134 x16_1).toList != ([62] : List UInt8)) = false := bne_eq_false_iff_eq.mpr c14
       clear c14
       by_cases c15 : x5_1 = true
       ·subst c15
        have H1 : (some (([] : List (S80)), ([] : List Bool), false)) = some (r1, r2, r3) := by rw [if_pos rfl] at H; exact H
        clear H
        have H := H1
        clear H1
        simp only [Option.some.injEq, Prod.mk.injEq] at H
        obtain ⟨rfl, rfl, rfl⟩ := H
        have p137 : 0 ≤ (x16_1 : Int) := of_decide_eq_true (by first | (with_reducible assumption))
        have q137 : x16_1 < (t134.length : Int) := of_decide_eq_true (by first | (with_reducible assumption))
        obtain ⟨ad137, e137, hx137_0⟩ := Kd.at_string (Kd.R_reads' HO_14.out).2.2 x16_1 p137 q137
        cases e137
        replace p137 := eq_true p137
        replace q137 := eq_true q137
        have hnb16 := NB130_131.out
        have hnc16 := NB131_130.out
        have hcz17_0 : wr.cell? ⟨gb130, 0, none⟩ = some (.slice none 0 0) := (blk_cell BK130.out 0).trans rfl
        have hcz17_1 : wr.cell? ⟨gb130, 1, none⟩ = some (.slice none 0 0) := (blk_cell BK130.out 1).trans rfl
        have hfz17_0 := blk_frozen BK130.out 0
        have hfz17_1 := blk_frozen BK130.out 1
        go_wp2
        refine bodyPost_ret (results_ct rfl _ _ gb130 25 #[.slice none 0 0, .slice none 0 0] (0, 0) _ rfl (by refine blk_put (cs := #[.slice none 0 0, .slice none 0 0]) ?_ 1 _ rfl; refine blk_put (cs := #[.slice none 0 0, .slice none 0 0]) ?_ 0 _ rfl; exact BK130.out) Tryz.underlying25 rfl (by kernel_rfl)) rfl ?_
        exact ⟨_, _, by first | rfl, by exact Kd.S_nil _ _ _ _ _, by exact Kd.R_nil _ _ _ _ _, by repeat (with_reducible first | exact HB.out | refine below_set ?_ GE130.out)⟩
       ·replace c15 := Bool.eq_false_iff.mpr c15
        subst c15
        have H1 : (if x6_1 = true then (some (([] : List (S80)), ([] : List Bool), false)) else (selector_Read.l0 k1 true x6_1 t134 (t134.length : Int) (wrap64 (x16_1 + 1)) x132000_1 x132001_1)) = some (r1, r2, r3) := by rw [if_neg (show ¬ (false = true) by decide)] at H; exact H
        clear H
        have H := H1
        clear H1
        by_cases c18 : x6_1 = true
        ·subst c18
         have H1 : (some (([] : List (S80)), ([] : List Bool), false)) = some (r1, r2, r3) := by rw [if_pos rfl] at H; exact H
         clear H
         have H := H1
         clear H1
         simp only [Option.some.injEq, Prod.mk.injEq] at H
         obtain ⟨rfl, rfl, rfl⟩ := H
         have p137 : 0 ≤ (x16_1 : Int) := of_decide_eq_true (by first | (with_reducible assumption))
         have q137 : x16_1 < (t134.length : Int) := of_decide_eq_true (by first | (with_reducible assumption))
         obtain ⟨ad137, e137, hx137_0⟩ := Kd.at_string (Kd.R_reads' HO_14.out).2.2 x16_1 p137 q137
         cases e137
         replace p137 := eq_true p137
         replace q137 := eq_true q137
         have hnb19 := NB130_131.out
         have hnc19 := NB131_130.out
         have hcz20_0 : wr.cell? ⟨gb130, 0, none⟩ = some (.slice none 0 0) := (blk_cell BK130.out 0).trans rfl
         have hcz20_1 : wr.cell? ⟨gb130, 1, none⟩ = some (.slice none 0 0) := (blk_cell BK130.out 1).trans rfl
         have hfz20_0 := blk_frozen BK130.out 0
         have hfz20_1 := blk_frozen BK130.out 1
         go_wp2
         refine bodyPost_ret (results_ct rfl _ _ gb130 25 #[.slice none 0 0, .slice none 0 0] (0, 0) _ rfl (by refine blk_put (cs := #[.slice none 0 0, .slice none 0 0]) ?_ 1 _ rfl; refine blk_put (cs := #[.slice none 0 0, .slice none 0 0]) ?_ 0 _ rfl; exact BK130.out) Tryz.underlying25 rfl (by kernel_rfl)) rfl ?_
         exact ⟨_, _, by first | rfl, by exact Kd.S_nil _ _ _ _ _, by exact Kd.R_nil _ _ _ _ _, by repeat (with_reducible first | exact HB.out | refine below_set ?_ GE130.out)⟩
        ·replace c18 := Bool.eq_false_iff.mpr c18
         subst c18
         have H1 : (selector_Read.l0 k1 true false t134 (t134.length : Int) (wrap64 (x16_1 + 1)) x132000_1 x132001_1) = some (r1, r2, r3) := by rw [if_neg (show ¬ (false = true) by decide)] at H; exact H
         clear H
         have H := H1
         clear H1
         have H' := Aside0.mk H
         clear H
         have p137 : 0 ≤ (x16_1 : Int) := of_decide_eq_true (by first | (with_reducible assumption))
         have q137 : x16_1 < (t134.length : Int) := of_decide_eq_true (by first | (with_reducible assumption))
         obtain ⟨ad137, e137, hx137_0⟩ := Kd.at_string (Kd.R_reads' HO_14.out).2.2 x16_1 p137 q137
         cases e137
         replace p137 := eq_true p137
         replace q137 := eq_true q137
         go_wp2
         go_roundg k1
         case measure => have := HK1.out; omega
         case rel => exact ⟨(true), (false), (wrap64 (x16_1 + 1)), (x132000_1), (x132001_1), (u132000), (u132001), (by first | rfl), (by first | rfl), (by first | rfl), H', ⟨by have := HK1.out; omega⟩, ⟨by exact HO_14.out⟩, ⟨by exact HO_132000.out⟩, ⟨by exact HO_132001.out⟩, ⟨by exact BK130.out⟩, ⟨by exact BK131.out⟩, ⟨by exact HB.out⟩⟩
      ·rw [if_neg c14] at H
       have c14b0 : ((rdOf ByteArray.empty t134 x16_1).toList == ([62] : List UInt8)) = false := beq_eq_false_iff_ne.mpr c14
       have c14b1 : ((rdOf ByteArray.empty t134 x16_1).toList != ([62] : List UInt8)) = true := bne_iff_ne.mpr c14
       replace H := Option.bind_eq_some_iff.mp H
       obtain ⟨⟨t138, t139, t142, t145, t146, t147⟩, A210, H⟩ := H
       replace H : (if t147 = true then (selector_Read.j1 k1 x5_1 x6_1 t134 (t134.length : Int) x16_1 ((x132000_1.length : Int) == 8) x132000_1 x132001_1 t138 t139 t142 t145 t146) else (selector_Read.j1 k1 x5_1 x6_1 t134 (t134.length : Int) x16_1 true x132000_1 x132001_1 t138 t139 t142 t145 t146)) = some (r1, r2, r3) := H
       have A21 := Aside0.mk A210
       clear A210
       have HC22 := Aside0.mk H
       clear H
       have p137 : 0 ≤ (x16_1 : Int) := of_decide_eq_true (by first | (with_reducible assumption))
       have q137 : x16_1 < (t134.length : Int) := of_decide_eq_true (by first | (with_reducible assumption))
       obtain ⟨ad137, e137, hx137_0⟩ := Kd.at_string (Kd.R_reads' HO_14.out).2.2 x16_1 p137 q137
       cases e137
       replace p137 := eq_true p137
       replace q137 := eq_true q137
       go_upto_region 11 with (first | ((with_reducible refine gate_callee (f := 42) rfl ?_); refine goesL_ (some 29) rfl rfl Tryz.func42 (by kernel_rfl) rfl #[.string (rdOf ByteArray.empty t134 x16_1)] rfl (by (try simp only [List.map_toArray, List.map_cons, List.map_nil]); first | rfl) ?_; (with_reducible refine (selector_simple.calls k1 (rdOf ByteArray.empty t134 x16_1) t138 t139 t142 t145 t146 t147 _ A21.out).mono ?_); rintro e w23 ⟨v140, v143, rfl, ho0, ho1, hb⟩; refine ⟨_, rfl, ?_⟩; have n0_ := Aside0.mk (Kd.R_mono (Kd.R_told (Kd.R_told (Kd.R_old HO_14.out hb) (Kd.R_base ho0)) (Kd.R_base ho1)) (fun _ h_ => h_.1)); have n1_ := Aside0.mk (Kd.S_mono (Kd.S_told (Kd.S_told (Kd.S_old HO_132000.out hb) (Kd.R_base ho0)) (Kd.R_base ho1)) (fun _ h_ => h_.1)); have n2_ := Aside0.mk (Kd.R_below HO_132001.out hb); have n3_ := Aside0.mk (Kd.R_lower (Kd.R_new' ho0 (Kd.R_lt HO_14.out)) (below_size HB.out)); have n4_ := Aside0.mk (Kd.R_lower (Kd.R_new' ho1 (Kd.R_lt HO_14.out)) (below_size HB.out)); have n5_ := Aside0.mk (blk_below (g := gb130) (o := .cells #[.slice none 0 0, .slice none 0 0] 25 (0, 0)) BK130.out hb); have n6_ := Aside0.mk (blk_below (g := gb131) (o := .cells #[u132000, u132001] 25 (0, 0)) BK131.out hb); have n7_ := Aside0.mk (below_step HB.out hb); clear HO_14; clear HO_132000; clear HO_132001; clear BK130; clear BK131; clear HB; have HO_14 := n0_; have HO_132000 := n1_; have HO_132001 := n2_; have HO141 := n3_; have HO144 := n4_; have BK130 := n5_; have BK131 := n6_; have HB := n7_; clear n0_ n1_ n2_ n3_ n4_ n5_ n6_ n7_; (try clear hb); (try clear hb2); (try clear hk); (try clear hi); (try clear ho0); (try clear ho1)) | ((with_reducible refine gate_dst (N := 9) rfl ?_); (try (refine gate_guard (by rfl) ?_; dsimp only)); refine box_event ?hg (N := 9) ?hd (cs := #[.string (⟨#[]⟩ : ByteArray), .slice none 0 0, .slice none 0 0, .bool false, .bool false]) (t := 80) ?hr ?_; (case hd => rfl); (case hg => rfl); (case hr => first | (go_simp; done)); intro gb148 hg w24 hbox hb; have n0_ := Aside0.mk (Kd.R_below HO_14.out hb); have n1_ := Aside0.mk (Kd.S_below (Kd.S_elderB HO_132000.out gb148 (Nat.le_of_eq hg.symm)) hb); have n2_ := Aside0.mk (Kd.R_below HO_132001.out hb); have n3_ := Aside0.mk (Kd.R_below HO141.out hb); have n4_ := Aside0.mk (Kd.R_below HO144.out hb); have n5_ := Aside0.mk (blk_below (g := gb130) (o := .cells #[.slice none 0 0, .slice none 0 0] 25 (0, 0)) BK130.out hb); have n6_ := Aside0.mk (blk_below (g := gb131) (o := .cells #[u132000, u132001] 25 (0, 0)) BK131.out hb); have n7_ := Aside0.mk (below_step HB.out hb); have n8_ := Aside0.mk (hbox); have n9_ := Aside0.mk ((by rw [hg]; exact (below_size HB.out) : w.heap.size ≤ gb148)); have n10_ := Aside0.mk ((by rw [hg]; exact (below_size HB.out) : w.heap.size ≤ gb148)); have n11_ := Aside0.mk ((by rw [hg]; exact Nat.ne_of_lt (blk_lt (g := gb130) (o := .cells #[.slice none 0 0, .slice none 0 0] 25 (0, 0)) BK130.out) : gb130 ≠ gb148)); have n12_ := Aside0.mk ((by rw [hg]; exact Nat.ne_of_gt (blk_lt (g := gb130) (o := .cells #[.slice none 0 0, .slice none 0 0] 25 (0, 0)) BK130.out) : gb148 ≠ gb130)); have n13_ := Aside0.mk ((by rw [hg]; exact Nat.ne_of_lt (blk_lt (g := gb131) (o := .cells #[u132000, u132001] 25 (0, 0)) BK131.out) : gb131 ≠ gb148)); have n14_ := Aside0.mk ((by rw [hg]; exact Nat.ne_of_gt (blk_lt (g := gb131) (o := .cells #[u132000, u132001] 25 (0, 0)) BK131.out) : gb148 ≠ gb131)); clear HO_14; clear HO_132000; clear HO_132001; clear HO141; clear HO144; clear BK130; clear BK131; clear HB; have HO_14 := n0_; have HO_132000 := n1_; have HO_132001 := n2_; have HO141 := n3_; have HO144 := n4_; have BK130 := n5_; have BK131 := n6_; have HB := n7_; have BK148 := n8_; have GW148 := n9_; have GE148 := n10_; have NB130_148 := n11_; have NB148_130 := n12_; have NB131_148 := n13_; have NB148_131 := n14_; clear n0_ n1_ n2_ n3_ n4_ n5_ n6_ n7_ n8_ n9_ n10_ n11_ n12_ n13_ n14_; clear hb hbox hg; have hnb25 := NB148_130.out; have hnc25 := NB130_148.out; have hnb26 := NB148_131.out; have hnc26 := NB131_148.out; have hcz27_0 : w24.cell? ⟨gb148, 0, none⟩ = some (.string (⟨#[]⟩ : ByteArray)) := (blk_cell BK148.out 0).trans rfl; have hcz27_1 : w24.cell? ⟨gb148, 1, none⟩ = some (.slice none 0 0) := (blk_cell BK148.out 1).trans rfl; have hcz27_2 : w24.cell? ⟨gb148, 2, none⟩ = some (.slice none 0 0) := (blk_cell BK148.out 2).trans rfl; have hcz27_3 : w24.cell? ⟨gb148, 3, none⟩ = some (.bool false) := (blk_cell BK148.out 3).trans rfl; have hcz27_4 : w24.cell? ⟨gb148, 4, none⟩ = some (.bool false) := (blk_cell BK148.out 4).trans rfl; have hfz27_0 := blk_frozen BK148.out 0; have hfz27_1 := blk_frozen BK148.out 1; have hfz27_2 := blk_frozen BK148.out 2; have hfz27_3 := blk_frozen BK148.out 3; have hfz27_4 := blk_frozen BK148.out 4; obtain ⟨Ao28, co28, eo28⟩ := Kd.R_slice HO141.out; subst eo28; obtain ⟨Ao29, co29, eo29⟩ := Kd.R_slice HO144.out; subst eo29))
       (try simp only [Act.put, List.setIfInBounds_toArray, List.set_cons_zero, List.set_cons_succ])
       go_cut [39] (fun v39 wc => ∃ (kq : Nat) (x39_21 : Bool), v39 = .bool x39_21 ∧ Aside0 (selector_Read.j1 kq x5_1 x6_1 t134 (t134.length : Int) x16_1 x39_21 x132000_1 x132001_1 t138 t139 t142 t145 t146 = some (r1, r2, r3)) ∧ Aside0 (kq ≤ k1) ∧ Aside0 (Kd.R Kd.string 9 wc w.heap.size (fun k_ => some k_ ≠ ((.slice Ao28 t139.length co28) : Value).ownBlock ∧ some k_ ≠ ((.slice Ao29 t142.length co29) : Value).ownBlock) (.slice (some ad137) t134.length co10) t134) ∧ Aside0 (Kd.S k80 80 wc w.heap.size (fun k_ => some k_ ≠ ((.slice (some ad137) t134.length co10) : Value).ownBlock ∧ some k_ ≠ ((.slice Ao28 t139.length co28) : Value).ownBlock ∧ some k_ ≠ ((.slice Ao29 t142.length co29) : Value).ownBlock ∧ k_ ≠ gb148) u132000 x132000_1) ∧ Aside0 (Kd.R Kd.bool 4 wc w.heap.size (fun _ => True) u132001 x132001_1) ∧ Aside0 (Kd.R Kd.string 9 wc w.heap.size (fun k_ => some k_ ≠ ((.slice (some ad137) t134.length co10) : Value).ownBlock ∧ some k_ ≠ ((.slice Ao29 t142.length co29) : Value).ownBlock) (.slice Ao28 t139.length co28) t139) ∧ Aside0 (Kd.R Kd.string 9 wc w.heap.size (fun k_ => some k_ ≠ ((.slice (some ad137) t134.length co10) : Value).ownBlock ∧ some k_ ≠ ((.slice Ao28 t139.length co28) : Value).ownBlock) (.slice Ao29 t142.length co29) t142) ∧ Aside0 (wc.heap[gb130]? = some (.cells #[(.slice none 0 0), (.slice none 0 0)] 25 (0, 0))) ∧ Aside0 (wc.heap[gb131]? = some (.cells #[u132000, u132001] 25 (0, 0))) ∧ Aside0 (wc.heap[gb148]? = some (.cells #[.string t138, (.slice Ao28 t139.length co28), (.slice Ao29 t142.length co29), .bool t145, .bool t146] 80 (0, 0))) ∧ Aside0 (Below w.heap.size w wc))
       case first =>
        have H := HC22.out
        clear HC22
        by_cases c30 : t147 = true
        ·subst c30
         have H1 : (selector_Read.j1 k1 x5_1 x6_1 t134 (t134.length : Int) x16_1 ((x132000_1.length : Int) == 8) x132000_1 x132001_1 t138 t139 t142 t145 t146) = some (r1, r2, r3) := by rw [if_pos rfl] at H; exact H
         clear H
         have H := H1
         clear H1
         have H' := Aside0.mk H
         clear H
         have hnb31 := NB131_130.out
         have hnc31 := NB130_131.out
         have hnb32 := NB131_148.out
         have hnc32 := NB148_131.out
         have hcz33_0 : w24.cell? ⟨gb131, 0, none⟩ = some (u132000) := (blk_cell BK131.out 0).trans rfl
         have hcz33_1 : w24.cell? ⟨gb131, 1, none⟩ = some (u132001) := (blk_cell BK131.out 1).trans rfl
         have hfz33_0 := blk_frozen BK131.out 0
         have hfz33_1 := blk_frozen BK131.out 1
         obtain ⟨Ao34, co34, eo34⟩ := Kd.S_slice HO_132000.out
         subst eo34
         go_wp2
         go_meet
         case rel => exact ⟨_, (((x132000_1.length : Int) == 8)), (by first | rfl), H', ⟨by have := HK1.out; first | omega⟩, ⟨by exact Kd.R_mono (Kd.R_far (p := ⟨gb148, 4, none⟩) (Kd.R_far (p := ⟨gb148, 3, none⟩) (Kd.R_far (p := ⟨gb148, 2, none⟩) (Kd.R_far (p := ⟨gb148, 1, none⟩) (Kd.R_far (p := ⟨gb148, 0, none⟩) (Kd.R_types HO_14.out BK148.out (by decide)) (fun _ hk => hk.2) (.string t138)) (fun _ hk => hk.2) (.slice Ao28 t139.length co28)) (fun _ hk => hk.2) (.slice Ao29 t142.length co29)) (fun _ hk => hk.2) (.bool t145)) (fun _ hk => hk.2) (.bool t146)) (fun _ hk => ⟨hk.1.1.2, hk.1.2⟩)⟩, ⟨by exact Kd.S_mono (Kd.S_far (p := ⟨gb148, 4, none⟩) (Kd.S_far (p := ⟨gb148, 3, none⟩) (Kd.S_far (p := ⟨gb148, 2, none⟩) (Kd.S_far (p := ⟨gb148, 1, none⟩) (Kd.S_far (p := ⟨gb148, 0, none⟩) (Kd.S_mono HO_132000.out (fun k_ hk => (⟨hk, hk.2⟩ : _ ∧ k_ ≠ gb148))) (fun _ hk => hk.2) (.string t138)) (fun _ hk => hk.2) (.slice Ao28 t139.length co28)) (fun _ hk => hk.2) (.slice Ao29 t142.length co29)) (fun _ hk => hk.2) (.bool t145)) (fun _ hk => hk.2) (.bool t146)) (fun _ hk => ⟨hk.1.1.1.1, ⟨hk.1.1.1.2, ⟨hk.1.1.2, hk.1.2⟩⟩⟩)⟩, ⟨by exact Kd.R_mono (Kd.R_far (p := ⟨gb148, 4, none⟩) (Kd.R_far (p := ⟨gb148, 3, none⟩) (Kd.R_far (p := ⟨gb148, 2, none⟩) (Kd.R_far (p := ⟨gb148, 1, none⟩) (Kd.R_far (p := ⟨gb148, 0, none⟩) (Kd.R_types HO_132001.out BK148.out (by decide)) (fun _ hk => hk.2) (.string t138)) (fun _ hk => hk.2) (.slice Ao28 t139.length co28)) (fun _ hk => hk.2) (.slice Ao29 t142.length co29)) (fun _ hk => hk.2) (.bool t145)) (fun _ hk => hk.2) (.bool t146)) (fun _ hk => trivial)⟩, ⟨by exact Kd.R_mono (Kd.R_far (p := ⟨gb148, 4, none⟩) (Kd.R_far (p := ⟨gb148, 3, none⟩) (Kd.R_far (p := ⟨gb148, 2, none⟩) (Kd.R_far (p := ⟨gb148, 1, none⟩) (Kd.R_far (p := ⟨gb148, 0, none⟩) (Kd.R_types HO141.out BK148.out (by decide)) (fun _ hk => hk.2) (.string t138)) (fun _ hk => hk.2) (.slice Ao28 t139.length co28)) (fun _ hk => hk.2) (.slice Ao29 t142.length co29)) (fun _ hk => hk.2) (.bool t145)) (fun _ hk => hk.2) (.bool t146)) (fun _ hk => ⟨hk.1.2, hk.1.1⟩)⟩, ⟨by exact Kd.R_mono (Kd.R_far (p := ⟨gb148, 4, none⟩) (Kd.R_far (p := ⟨gb148, 3, none⟩) (Kd.R_far (p := ⟨gb148, 2, none⟩) (Kd.R_far (p := ⟨gb148, 1, none⟩) (Kd.R_far (p := ⟨gb148, 0, none⟩) (Kd.R_types HO144.out BK148.out (by decide)) (fun _ hk => hk.2) (.string t138)) (fun _ hk => hk.2) (.slice Ao28 t139.length co28)) (fun _ hk => hk.2) (.slice Ao29 t142.length co29)) (fun _ hk => hk.2) (.bool t145)) (fun _ hk => hk.2) (.bool t146)) (fun _ hk => ⟨hk.1.2, hk.1.1⟩)⟩, ⟨by refine blk_far ?_ NB130_148.out _; refine blk_far ?_ NB130_148.out _; refine blk_far ?_ NB130_148.out _; refine blk_far ?_ NB130_148.out _; refine blk_far ?_ NB130_148.out _; exact BK130.out⟩, ⟨by refine blk_far ?_ NB131_148.out _; refine blk_far ?_ NB131_148.out _; refine blk_far ?_ NB131_148.out _; refine blk_far ?_ NB131_148.out _; refine blk_far ?_ NB131_148.out _; exact BK131.out⟩, ⟨by refine blk_put (cs := #[.string t138, .slice Ao28 t139.length co28, .slice Ao29 t142.length co29, .bool t145, .bool false]) ?_ 4 _ rfl; refine blk_put (cs := #[.string t138, .slice Ao28 t139.length co28, .slice Ao29 t142.length co29, .bool false, .bool false]) ?_ 3 _ rfl; refine blk_put (cs := #[.string t138, .slice Ao28 t139.length co28, .slice none 0 0, .bool false, .bool false]) ?_ 2 _ rfl; refine blk_put (cs := #[.string t138, .slice none 0 0, .slice none 0 0, .bool false, .bool false]) ?_ 1 _ rfl; refine blk_put (cs := #[.string (⟨#[]⟩ : ByteArray), .slice none 0 0, .slice none 0 0, .bool false, .bool false]) ?_ 0 _ rfl; exact BK148.out⟩, ⟨by repeat (with_reducible first | exact HB.out | refine below_set ?_ GE148.out)⟩⟩
        ·replace c30 := Bool.eq_false_iff.mpr c30
         subst c30
         have H1 : (selector_Read.j1 k1 x5_1 x6_1 t134 (t134.length : Int) x16_1 true x132000_1 x132001_1 t138 t139 t142 t145 t146) = some (r1, r2, r3) := by rw [if_neg (show ¬ (false = true) by decide)] at H; exact H
         clear H
         have H := H1
         clear H1
         have H' := Aside0.mk H
         clear H
         go_wp2
         go_meet
         case rel => exact ⟨_, (true), (by first | rfl), H', ⟨by have := HK1.out; first | omega⟩, ⟨by exact Kd.R_mono (Kd.R_far (p := ⟨gb148, 4, none⟩) (Kd.R_far (p := ⟨gb148, 3, none⟩) (Kd.R_far (p := ⟨gb148, 2, none⟩) (Kd.R_far (p := ⟨gb148, 1, none⟩) (Kd.R_far (p := ⟨gb148, 0, none⟩) (Kd.R_types HO_14.out BK148.out (by decide)) (fun _ hk => hk.2) (.string t138)) (fun _ hk => hk.2) (.slice Ao28 t139.length co28)) (fun _ hk => hk.2) (.slice Ao29 t142.length co29)) (fun _ hk => hk.2) (.bool t145)) (fun _ hk => hk.2) (.bool t146)) (fun _ hk => ⟨hk.1.1.2, hk.1.2⟩)⟩, ⟨by exact Kd.S_mono (Kd.S_far (p := ⟨gb148, 4, none⟩) (Kd.S_far (p := ⟨gb148, 3, none⟩) (Kd.S_far (p := ⟨gb148, 2, none⟩) (Kd.S_far (p := ⟨gb148, 1, none⟩) (Kd.S_far (p := ⟨gb148, 0, none⟩) (Kd.S_mono HO_132000.out (fun k_ hk => (⟨hk, hk.2⟩ : _ ∧ k_ ≠ gb148))) (fun _ hk => hk.2) (.string t138)) (fun _ hk => hk.2) (.slice Ao28 t139.length co28)) (fun _ hk => hk.2) (.slice Ao29 t142.length co29)) (fun _ hk => hk.2) (.bool t145)) (fun _ hk => hk.2) (.bool t146)) (fun _ hk => ⟨hk.1.1.1.1, ⟨hk.1.1.1.2, ⟨hk.1.1.2, hk.1.2⟩⟩⟩)⟩, ⟨by exact Kd.R_mono (Kd.R_far (p := ⟨gb148, 4, none⟩) (Kd.R_far (p := ⟨gb148, 3, none⟩) (Kd.R_far (p := ⟨gb148, 2, none⟩) (Kd.R_far (p := ⟨gb148, 1, none⟩) (Kd.R_far (p := ⟨gb148, 0, none⟩) (Kd.R_types HO_132001.out BK148.out (by decide)) (fun _ hk => hk.2) (.string t138)) (fun _ hk => hk.2) (.slice Ao28 t139.length co28)) (fun _ hk => hk.2) (.slice Ao29 t142.length co29)) (fun _ hk => hk.2) (.bool t145)) (fun _ hk => hk.2) (.bool t146)) (fun _ hk => trivial)⟩, ⟨by exact Kd.R_mono (Kd.R_far (p := ⟨gb148, 4, none⟩) (Kd.R_far (p := ⟨gb148, 3, none⟩) (Kd.R_far (p := ⟨gb148, 2, none⟩) (Kd.R_far (p := ⟨gb148, 1, none⟩) (Kd.R_far (p := ⟨gb148, 0, none⟩) (Kd.R_types HO141.out BK148.out (by decide)) (fun _ hk => hk.2) (.string t138)) (fun _ hk => hk.2) (.slice Ao28 t139.length co28)) (fun _ hk => hk.2) (.slice Ao29 t142.length co29)) (fun _ hk => hk.2) (.bool t145)) (fun _ hk => hk.2) (.bool t146)) (fun _ hk => ⟨hk.1.2, hk.1.1⟩)⟩, ⟨by exact Kd.R_mono (Kd.R_far (p := ⟨gb148, 4, none⟩) (Kd.R_far (p := ⟨gb148, 3, none⟩) (Kd.R_far (p := ⟨gb148, 2, none⟩) (Kd.R_far (p := ⟨gb148, 1, none⟩) (Kd.R_far (p := ⟨gb148, 0, none⟩) (Kd.R_types HO144.out BK148.out (by decide)) (fun _ hk => hk.2) (.string t138)) (fun _ hk => hk.2) (.slice Ao28 t139.length co28)) (fun _ hk => hk.2) (.slice Ao29 t142.length co29)) (fun _ hk => hk.2) (.bool t145)) (fun _ hk => hk.2) (.bool t146)) (fun _ hk => ⟨hk.1.2, hk.1.1⟩)⟩, ⟨by refine blk_far ?_ NB130_148.out _; refine blk_far ?_ NB130_148.out _; refine blk_far ?_ NB130_148.out _; refine blk_far ?_ NB130_148.out _; refine blk_far ?_ NB130_148.out _; exact BK130.out⟩, ⟨by refine blk_far ?_ NB131_148.out _; refine blk_far ?_ NB131_148.out _; refine blk_far ?_ NB131_148.out _; refine blk_far ?_ NB131_148.out _; refine blk_far ?_ NB131_148.out _; exact BK131.out⟩, ⟨by refine blk_put (cs := #[.string t138, .slice Ao28 t139.length co28, .slice Ao29 t142.length co29, .bool t145, .bool false]) ?_ 4 _ rfl; refine blk_put (cs := #[.string t138, .slice Ao28 t139.length co28, .slice Ao29 t142.length co29, .bool false, .bool false]) ?_ 3 _ rfl; refine blk_put (cs := #[.string t138, .slice Ao28 t139.length co28, .slice none 0 0, .bool false, .bool false]) ?_ 2 _ rfl; refine blk_put (cs := #[.string t138, .slice none 0 0, .slice none 0 0, .bool false, .bool false]) ?_ 1 _ rfl; refine blk_put (cs := #[.string (⟨#[]⟩ : ByteArray), .slice none 0 0, .slice none 0 0, .bool false, .bool false]) ?_ 0 _ rfl; exact BK148.out⟩, ⟨by repeat (with_reducible first | exact HB.out | refine below_set ?_ GE148.out)⟩⟩
       case rest =>
        clear HC22
        try clear c1
        try clear p1
        try clear q1
        try clear hx1
        try clear c2
        try clear p2
        try clear c3
        try clear c4
        try clear p6
        try clear c11
        try clear c11b0
        try clear c12
        try clear c12b0
        try clear c13
        try clear c13b0
        try clear p13
        try clear q13
        try clear hx13
        try clear c14
        try clear c14b0
        try clear c14b1
        try clear c15
        try clear c16
        try clear c18
        try clear c19
        try clear c25
        try clear c26
        try clear c30
        try clear c31
        try clear c32
        try clear hcz17_0
        try clear hcz17_1
        try clear hcz20_0
        try clear hcz20_1
        try clear hcz27_0
        try clear hcz27_1
        try clear hcz27_2
        try clear hcz27_3
        try clear hcz27_4
        try clear hcz33_0
        try clear hcz33_1
        try clear hfz17_0
        try clear hfz17_1
        try clear hfz20_0
        try clear hfz20_1
        try clear hfz27_0
        try clear hfz27_1
        try clear hfz27_2
        try clear hfz27_3
        try clear hfz27_4
        try clear hfz33_0
        try clear hfz33_1
        try clear hx137_0
        try clear p137
        try clear p2
        try clear q137
        obtain ⟨kq, x39_21, rfl, HA, HJ21, HO_14, HO_132000, HO_132001, HO_149001, HO_149002, BK130, BK131, BK148, HB⟩ := hcut
        cases kq with
        | zero => exact absurd HA.out (by simp [selector_Read.j1])
        | succ kj21 =>
         have H := HA.out
         clear HA
         simp only [selector_Read.j1] at H
         by_cases c35 : x39_21 = true
         ·subst c35
          have H1 : (some (([] : List (S80)), ([] : List Bool), false)) = some (r1, r2, r3) := by rw [if_pos rfl] at H; exact H
          clear H
          have H := H1
          clear H1
          simp only [Option.some.injEq, Prod.mk.injEq] at H
          obtain ⟨rfl, rfl, rfl⟩ := H
          have hnb36 := NB130_131.out
          have hnc36 := NB131_130.out
          have hnb37 := NB130_148.out
          have hnc37 := NB148_130.out
          have hcz38_0 : wc.cell? ⟨gb130, 0, none⟩ = some (.slice none 0 0) := (blk_cell BK130.out 0).trans rfl
          have hcz38_1 : wc.cell? ⟨gb130, 1, none⟩ = some (.slice none 0 0) := (blk_cell BK130.out 1).trans rfl
          have hfz38_0 := blk_frozen BK130.out 0
          have hfz38_1 := blk_frozen BK130.out 1
          go_wp2
          refine bodyPost_ret (results_ct rfl _ _ gb130 25 #[.slice none 0 0, .slice none 0 0] (0, 0) _ rfl (by refine blk_put (cs := #[.slice none 0 0, .slice none 0 0]) ?_ 1 _ rfl; refine blk_put (cs := #[.slice none 0 0, .slice none 0 0]) ?_ 0 _ rfl; exact BK130.out) Tryz.underlying25 rfl (by kernel_rfl)) rfl ?_
          exact ⟨_, _, by first | rfl, by exact Kd.S_nil _ _ _ _ _, by exact Kd.R_nil _ _ _ _ _, by repeat (with_reducible first | exact HB.out | refine below_set ?_ GE130.out)⟩
         ·replace c35 := Bool.eq_false_iff.mpr c35
          subst c35
          have H1 : (if x6_1 = true then (if x132000_1.length < 1954687338268 then (selector_Read.l0 kj21 false false t134 (t134.length : Int) (wrap64 (x16_1 + 1)) (x132000_1 ++ [(⟨t138, t139, t142, t145, t146⟩ : S80)]) x132001_1) else (none)) else (if x132001_1.length < 140737488355328 then (if x132000_1.length < 1954687338268 then (selector_Read.l0 kj21 false false t134 (t134.length : Int) (wrap64 (x16_1 + 1)) (x132000_1 ++ [(⟨t138, t139, t142, t145, t146⟩ : S80)]) (x132001_1 ++ [x5_1])) else (none)) else (none))) = some (r1, r2, r3) := by rw [if_neg (show ¬ (false = true) by decide)] at H; exact H
          clear H
          have H := H1
          clear H1
          by_cases c39 : x6_1 = true
          ·subst c39
           have H1 : (if x132000_1.length < 1954687338268 then (selector_Read.l0 kj21 false false t134 (t134.length : Int) (wrap64 (x16_1 + 1)) (x132000_1 ++ [(⟨t138, t139, t142, t145, t146⟩ : S80)]) x132001_1) else (none)) = some (r1, r2, r3) := by rw [if_pos rfl] at H; exact H
           clear H
           have H := H1
           clear H1
           by_cases c40 : x132000_1.length < 1954687338268
           ·rw [if_pos c40] at H
            have LMc40 := Aside0.mk c40
            clear c40
            obtain ⟨y149, hy149⟩ : ∃ y_ : List (S80), y_ = (x132000_1 ++ [(⟨t138, t139, t142, t145, t146⟩ : S80)]) := ⟨_, rfl⟩
            replace H : (selector_Read.l0 kj21 false false t134 (t134.length : Int) (wrap64 (x16_1 + 1)) y149 x132001_1) = some (r1, r2, r3) := by first | (rw [hy149]; with_reducible exact H)
            have Ny149 := Aside0.mk hy149
            clear hy149
            have H' := Aside0.mk H
            clear H
            have hnb41 := NB131_130.out
            have hnc41 := NB130_131.out
            have hnb42 := NB131_148.out
            have hnc42 := NB148_131.out
            have hcz43_0 : wc.cell? ⟨gb131, 0, none⟩ = some (u132000) := (blk_cell BK131.out 0).trans rfl
            have hcz43_1 : wc.cell? ⟨gb131, 1, none⟩ = some (u132001) := (blk_cell BK131.out 1).trans rfl
            have hfz43_0 := blk_frozen BK131.out 0
            have hfz43_1 := blk_frozen BK131.out 1
            have hnb44 := NB148_130.out
            have hnc44 := NB130_148.out
            have hcz45_0 : wc.cell? ⟨gb148, 0, none⟩ = some (.string t138) := (blk_cell BK148.out 0).trans rfl
            have hcz45_1 : wc.cell? ⟨gb148, 1, none⟩ = some (.slice Ao28 t139.length co28) := (blk_cell BK148.out 1).trans rfl
            have hcz45_2 : wc.cell? ⟨gb148, 2, none⟩ = some (.slice Ao29 t142.length co29) := (blk_cell BK148.out 2).trans rfl
            have hcz45_3 : wc.cell? ⟨gb148, 3, none⟩ = some (.bool t145) := (blk_cell BK148.out 3).trans rfl
            have hcz45_4 : wc.cell? ⟨gb148, 4, none⟩ = some (.bool t146) := (blk_cell BK148.out 4).trans rfl
            have hfz45_0 := blk_frozen BK148.out 0
            have hfz45_1 := blk_frozen BK148.out 1
            have hfz45_2 := blk_frozen BK148.out 2
            have hfz45_3 := blk_frozen BK148.out 3
            have hfz45_4 := blk_frozen BK148.out 4
            go_wp2_with (first | ((with_reducible refine gate_builtin (b := .append) (xs := #[.tmp 50, .tmp 52]) rfl ?_); (try (refine gate_guard (by rfl) ?_; dsimp only)); at_builtin; refine Kd.S_append k80 (w0 := w) w.heap.size rfl (.tmp 50) (.tmp 52) 22 80 (.agg #[(.string ⟨#[]⟩), (.slice none 0 0), (.slice none 0 0), (.bool false), (.bool false)]) 72 rfl Tryz.underlying22 info80 rfl (by decide) (by omega) u132000 x132000_1 (⟨t138, t139, t142, t145, t146⟩ : S80) [.string t138, .slice Ao28 t139.length co28, .slice Ao29 t142.length co29, .bool t145, .bool t146] (fun k_ => some k_ ≠ (.slice (some ad137) t134.length co10 : Value).ownBlock ∧ k_ ≠ gb148) (fun k_ => some k_ = (.slice Ao28 t139.length co28 : Value).ownBlock ∨ some k_ = (.slice Ao29 t142.length co29 : Value).ownBlock) rfl rfl ?aP (fun k_ hk_ => hk_.elim (fun h_ => ((Kd.R_mono (ok' := fun k_ => ((fun k_ => some k_ ≠ (.slice (some ad137) t134.length co10 : Value).ownBlock ∧ k_ ≠ gb148)) k_ ∧ some k_ ≠ (u132000 : Value).ownBlock) (Kd.R_types (Kd.R_apart' (HO_149001.out) (Kd.S_typed HO_132000.out) (by decide)) BK148.out (by decide)) (fun k_ hk => ⟨⟨hk.1.1.1, hk.2⟩, hk.1.2⟩))).1 k_ h_.symm) (fun h_ => ((Kd.R_mono (ok' := fun k_ => ((fun k_ => some k_ ≠ (.slice (some ad137) t134.length co10 : Value).ownBlock ∧ k_ ≠ gb148)) k_ ∧ some k_ ≠ (u132000 : Value).ownBlock) (Kd.R_types (Kd.R_apart' (HO_149002.out) (Kd.S_typed HO_132000.out) (by decide)) BK148.out (by decide)) (fun k_ hk => ⟨⟨hk.1.1.1, hk.2⟩, hk.1.2⟩))).1 k_ h_.symm)) ?aF ?aO ?aB ?aS ?aL ?_; (case aP => exact k80_mkM _ _ _ (⟨t138, t139, t142, t145, t146⟩ : S80) (Kd.R_mono (Kd.R_tight rfl (Kd.R_mono (ok' := fun k_ => ((fun k_ => some k_ ≠ (.slice (some ad137) t134.length co10 : Value).ownBlock ∧ k_ ≠ gb148)) k_ ∧ some k_ ≠ (u132000 : Value).ownBlock) (Kd.R_types (Kd.R_apart' (HO_149001.out) (Kd.S_typed HO_132000.out) (by decide)) BK148.out (by decide)) (fun k_ hk => ⟨⟨hk.1.1.1, hk.2⟩, hk.1.2⟩))) (fun _ h_ => Or.inl h_)) (Kd.R_mono (Kd.R_tight rfl (Kd.R_mono (ok' := fun k_ => ((fun k_ => some k_ ≠ (.slice (some ad137) t134.length co10 : Value).ownBlock ∧ k_ ≠ gb148)) k_ ∧ some k_ ≠ (u132000 : Value).ownBlock) (Kd.R_types (Kd.R_apart' (HO_149002.out) (Kd.S_typed HO_132000.out) (by decide)) BK148.out (by decide)) (fun k_ hk => ⟨⟨hk.1.1.1, hk.2⟩, hk.1.2⟩))) (fun _ h_ => Or.inr (h_)))); (case aB => exact HB.out); (case aF => exact (fun k_ hk => ⟨Kd.fresh' (Kd.R_lt HO_14.out) k_ hk, Kd.freshB (g := gb148) (o := .cells #[.string t138, .slice Ao28 t139.length co28, .slice Ao29 t142.length co29, .bool t145, .bool t146] 80 (0, 0)) BK148.out k_ hk⟩)); (case aO => exact (by exact Kd.S_mono HO_132000.out (fun k_ hk => ⟨⟨hk.1, hk.2.2.2⟩, fun e_ => e_.elim (fun h_ => hk.2.1 h_) (fun h_ => hk.2.2.1 h_)⟩))); (case aS => exact (below_size HB.out)); (case aL => have := LMc40.out; omega); intro v150 w46 ho hb hg hat; rw [← Ny149.out] at ho; have n0_ := Aside0.mk (Kd.R_over' HO_14.out (Kd.S_typed HO_132000.out) (by decide) hg); have n1_ := Aside0.mk (Kd.R_over' HO_132001.out (Kd.S_typed HO_132000.out) (by decide) hg); have n2_ := Aside0.mk (blk_grown (g := gb130) (o := .cells #[.slice none 0 0, .slice none 0 0] 25 (0, 0)) BK130.out hg (Kd.S_ne HO_132000.out BK130.out (by decide))); have n3_ := Aside0.mk (blk_grown (g := gb131) (o := .cells #[u132000, u132001] 25 (0, 0)) BK131.out hg (Kd.S_ne HO_132000.out BK131.out (by decide))); have n4_ := Aside0.mk (blk_grown (g := gb148) (o := .cells #[.string t138, .slice Ao28 t139.length co28, .slice Ao29 t142.length co29, .bool t145, .bool t146] 80 (0, 0)) BK148.out hg (Kd.S_away HO_132000.out (fun _ hk => hk.2.2.2))); have n5_ := Aside0.mk (hb); have n6_ := Aside0.mk (ho); clear HO_14; clear HO_132001; clear BK130; clear BK131; clear BK148; clear HB; clear HO_132000; clear HO_149001; clear HO_149002; have HO_14 := n0_; have HO_132001 := n1_; have BK130 := n2_; have BK131 := n3_; have BK148 := n4_; have HB := n5_; have HO151 := n6_; clear n0_ n1_ n2_ n3_ n4_ n5_ n6_; clear ho hb hg hat; obtain ⟨Ao47, co47, eo47⟩ := Kd.S_slice HO151.out; subst eo47; have hcz48_0 : w46.cell? ⟨gb131, 0, none⟩ = some (u132000) := (blk_cell BK131.out 0).trans rfl; have hcz48_1 : w46.cell? ⟨gb131, 1, none⟩ = some (u132001) := (blk_cell BK131.out 1).trans rfl; have hfz48_0 := blk_frozen BK131.out 0; have hfz48_1 := blk_frozen BK131.out 1))
            go_roundg kj21
            case measure => have := HK1.out; have := HJ21.out; omega
            case rel => exact ⟨(false), (false), (wrap64 (x16_1 + 1)), (y149), (x132001_1), (.slice Ao47 y149.length co47), (u132001), (by first | rfl), (by first | rfl), (by first | rfl), H', ⟨by have := HK1.out; have := HJ21.out; omega⟩, ⟨by exact Kd.R_mono (Kd.R_far (p := ⟨gb131, 0, none⟩) (Kd.R_types HO_14.out BK131.out (by decide)) (fun _ hk => hk.2) (.slice Ao47 y149.length co47)) (fun _ hk => trivial)⟩, ⟨by exact Kd.S_mono (Kd.S_far (p := ⟨gb131, 0, none⟩) (Kd.S_types HO151.out BK131.out (by decide)) (fun _ hk => hk.2) (.slice Ao47 y149.length co47)) (fun _ hk => hk.1.1)⟩, ⟨by exact Kd.R_mono (Kd.R_far (p := ⟨gb131, 0, none⟩) (Kd.R_types HO_132001.out BK131.out (by decide)) (fun _ hk => hk.2) (.slice Ao47 y149.length co47)) (fun _ hk => trivial)⟩, ⟨by refine blk_far ?_ NB130_131.out _; exact BK130.out⟩, ⟨by refine blk_put (cs := #[u132000, u132001]) ?_ 0 _ rfl; exact BK131.out⟩, ⟨by repeat (with_reducible first | exact HB.out | refine below_set ?_ GE131.out)⟩⟩
           ·rw [if_neg c40] at H
            exact absurd H (by simp)
          ·replace c39 := Bool.eq_false_iff.mpr c39
           subst c39
           have H1 : (if x132001_1.length < 140737488355328 then (if x132000_1.length < 1954687338268 then (selector_Read.l0 kj21 false false t134 (t134.length : Int) (wrap64 (x16_1 + 1)) (x132000_1 ++ [(⟨t138, t139, t142, t145, t146⟩ : S80)]) (x132001_1 ++ [x5_1])) else (none)) else (none)) = some (r1, r2, r3) := by rw [if_neg (show ¬ (false = true) by decide)] at H; exact H
           clear H
           have H := H1
           clear H1
           by_cases c49 : x132001_1.length < 140737488355328
           ·rw [if_pos c49] at H
            have LMc49 := Aside0.mk c49
            clear c49
            obtain ⟨y152, hy152⟩ : ∃ y_ : List Bool, y_ = (x132001_1 ++ [x5_1]) := ⟨_, rfl⟩
            replace H : (if x132000_1.length < 1954687338268 then (selector_Read.l0 kj21 false false t134 (t134.length : Int) (wrap64 (x16_1 + 1)) (x132000_1 ++ [(⟨t138, t139, t142, t145, t146⟩ : S80)]) y152) else (none)) = some (r1, r2, r3) := by first | (rw [hy152]; with_reducible exact H)
            have Ny152 := Aside0.mk hy152
            clear hy152
            by_cases c50 : x132000_1.length < 1954687338268
            ·rw [if_pos c50] at H
             have LMc50 := Aside0.mk c50
             clear c50
             obtain ⟨y155, hy155⟩ : ∃ y_ : List (S80), y_ = (x132000_1 ++ [(⟨t138, t139, t142, t145, t146⟩ : S80)]) := ⟨_, rfl⟩
             replace H : (selector_Read.l0 kj21 false false t134 (t134.length : Int) (wrap64 (x16_1 + 1)) y155 y152) = some (r1, r2, r3) := by first | (rw [hy155]; with_reducible exact H)
             have Ny155 := Aside0.mk hy155
             clear hy155
             have H' := Aside0.mk H
             clear H
             have hnb51 := NB131_130.out
             have hnc51 := NB130_131.out
             have hnb52 := NB131_148.out
             have hnc52 := NB148_131.out
             have hcz53_0 : wc.cell? ⟨gb131, 0, none⟩ = some (u132000) := (blk_cell BK131.out 0).trans rfl
             have hcz53_1 : wc.cell? ⟨gb131, 1, none⟩ = some (u132001) := (blk_cell BK131.out 1).trans rfl
             have hfz53_0 := blk_frozen BK131.out 0
             have hfz53_1 := blk_frozen BK131.out 1
             go_wp2_with (first | ((with_reducible refine gate_builtin (b := .append) (xs := #[.tmp 44, .tmp 46]) rfl ?_); (try (refine gate_guard (by rfl) ?_; dsimp only)); at_builtin; refine Kd.R_append Kd.bool (w0 := w) w.heap.size rfl (.tmp 44) (.tmp 46) 23 4 (.bool false) 1 rfl Tryz.underlying23 info4 rfl (by decide) (by omega) u132001 x132001_1 x5_1 [.bool x5_1] (fun _ => True) (fun _ => False) rfl rfl ?aP (fun _ hk => hk.elim) ?aF ?aO ?aB ?aS ?aL ?_; (case aP => exact rfl); (case aB => exact HB.out); (case aF => exact (fun _ _ => trivial)); (case aO => exact HO_132001.out); (case aS => exact (below_size HB.out)); (case aL => have := LMc49.out; omega); intro v153 w54 ho hb hg hat; rw [← Ny152.out] at ho; have n0_ := Aside0.mk (Kd.R_over' HO_14.out (Kd.R_typed HO_132001.out) (by decide) hg); have n1_ := Aside0.mk (Kd.S_over' HO_132000.out (Kd.R_typed HO_132001.out) (by decide) hg); have n2_ := Aside0.mk (Kd.R_over' HO_149001.out (Kd.R_typed HO_132001.out) (by decide) hg); have n3_ := Aside0.mk (Kd.R_over' HO_149002.out (Kd.R_typed HO_132001.out) (by decide) hg); have n4_ := Aside0.mk (blk_grown (g := gb130) (o := .cells #[.slice none 0 0, .slice none 0 0] 25 (0, 0)) BK130.out hg (Kd.R_ne HO_132001.out BK130.out (by decide))); have n5_ := Aside0.mk (blk_grown (g := gb131) (o := .cells #[u132000, u132001] 25 (0, 0)) BK131.out hg (Kd.R_ne HO_132001.out BK131.out (by decide))); have n6_ := Aside0.mk (blk_grown (g := gb148) (o := .cells #[.string t138, .slice Ao28 t139.length co28, .slice Ao29 t142.length co29, .bool t145, .bool t146] 80 (0, 0)) BK148.out hg (Kd.R_ne HO_132001.out BK148.out (by decide))); have n7_ := Aside0.mk (hb); have n8_ := Aside0.mk (ho); clear HO_14; clear HO_132000; clear HO_149001; clear HO_149002; clear BK130; clear BK131; clear BK148; clear HB; clear HO_132001; have HO_14 := n0_; have HO_132000 := n1_; have HO_149001 := n2_; have HO_149002 := n3_; have BK130 := n4_; have BK131 := n5_; have BK148 := n6_; have HB := n7_; have HO154 := n8_; clear n0_ n1_ n2_ n3_ n4_ n5_ n6_ n7_ n8_; clear ho hb hg hat; obtain ⟨Ao55, co55, eo55⟩ := Kd.R_slice HO154.out; subst eo55; have hcz56_0 : w54.cell? ⟨gb131, 0, none⟩ = some (u132000) := (blk_cell BK131.out 0).trans rfl; have hcz56_1 : w54.cell? ⟨gb131, 1, none⟩ = some (u132001) := (blk_cell BK131.out 1).trans rfl; have hfz56_0 := blk_frozen BK131.out 0; have hfz56_1 := blk_frozen BK131.out 1) | ((with_reducible refine gate_store (t := 23) (p := 48) rfl ?_); refine store_event (t := 23) (p := 48) (v := ?vo_w57) (w1 := (w54.setCell ⟨gb131, 1, none⟩ (.slice Ao55 y152.length co55))) ?hg ?ho ?hn ?hr ?_; (case ho => rfl); (case hg => rfl); (case hn => rfl); (case hr => first | (go_simp; done)); intro w57 hw; have n0_ : Aside0 (Kd.R Kd.string 9 w57 w.heap.size (fun k_ => some k_ ≠ (.slice Ao28 t139.length co28 : Value).ownBlock ∧ some k_ ≠ (.slice Ao29 t142.length co29 : Value).ownBlock) (.slice (some ad137) t134.length co10) t134) := ⟨(by rw [hw]; exact (by exact Kd.R_mono (Kd.R_far (p := ⟨gb131, 1, none⟩) (Kd.R_types HO_14.out BK131.out (by decide)) (fun _ hk => hk.2) (.slice Ao55 y152.length co55)) (fun _ hk => ⟨hk.1.1, hk.1.2⟩)))⟩; have n1_ : Aside0 (Kd.S k80 80 w57 w.heap.size (fun k_ => some k_ ≠ (.slice (some ad137) t134.length co10 : Value).ownBlock ∧ some k_ ≠ (.slice Ao28 t139.length co28 : Value).ownBlock ∧ some k_ ≠ (.slice Ao29 t142.length co29 : Value).ownBlock ∧ k_ ≠ gb148) u132000 x132000_1) := ⟨(by rw [hw]; exact (by exact Kd.S_mono (Kd.S_far (p := ⟨gb131, 1, none⟩) (Kd.S_types HO_132000.out BK131.out (by decide)) (fun _ hk => hk.2) (.slice Ao55 y152.length co55)) (fun _ hk => ⟨hk.1.1, ⟨hk.1.2.1, ⟨hk.1.2.2.1, hk.1.2.2.2⟩⟩⟩)))⟩; have n2_ : Aside0 (Kd.R Kd.string 9 w57 w.heap.size (fun k_ => some k_ ≠ (.slice (some ad137) t134.length co10 : Value).ownBlock ∧ some k_ ≠ (.slice Ao29 t142.length co29 : Value).ownBlock) (.slice Ao28 t139.length co28) t139) := ⟨(by rw [hw]; exact (by exact Kd.R_mono (Kd.R_far (p := ⟨gb131, 1, none⟩) (Kd.R_types HO_149001.out BK131.out (by decide)) (fun _ hk => hk.2) (.slice Ao55 y152.length co55)) (fun _ hk => ⟨hk.1.1, hk.1.2⟩)))⟩; have n3_ : Aside0 (Kd.R Kd.string 9 w57 w.heap.size (fun k_ => some k_ ≠ (.slice (some ad137) t134.length co10 : Value).ownBlock ∧ some k_ ≠ (.slice Ao28 t139.length co28 : Value).ownBlock) (.slice Ao29 t142.length co29) t142) := ⟨(by rw [hw]; exact (by exact Kd.R_mono (Kd.R_far (p := ⟨gb131, 1, none⟩) (Kd.R_types HO_149002.out BK131.out (by decide)) (fun _ hk => hk.2) (.slice Ao55 y152.length co55)) (fun _ hk => ⟨hk.1.1, hk.1.2⟩)))⟩; have n4_ : Aside0 (Kd.R Kd.bool 4 w57 w.heap.size (fun _ => True) (.slice Ao55 y152.length co55) y152) := ⟨(by rw [hw]; exact (by exact Kd.R_mono (Kd.R_far (p := ⟨gb131, 1, none⟩) (Kd.R_types HO154.out BK131.out (by decide)) (fun _ hk => hk.2) (.slice Ao55 y152.length co55)) (fun _ hk => trivial)))⟩; have n5_ : Aside0 (w57.heap[gb130]? = some (.cells #[.slice none 0 0, .slice none 0 0] 25 (0, 0))) := ⟨(by rw [hw]; exact (by refine blk_far ?_ NB130_131.out _; exact BK130.out))⟩; have n6_ : Aside0 (w57.heap[gb131]? = some (.cells #[u132000, .slice Ao55 y152.length co55] 25 (0, 0))) := ⟨(by rw [hw]; exact (by refine blk_put (cs := #[u132000, u132001]) ?_ 1 _ rfl; exact BK131.out))⟩; have n7_ : Aside0 (w57.heap[gb148]? = some (.cells #[.string t138, .slice Ao28 t139.length co28, .slice Ao29 t142.length co29, .bool t145, .bool t146] 80 (0, 0))) := ⟨(by rw [hw]; exact (by refine blk_far ?_ NB148_131.out _; exact BK148.out))⟩; have n8_ : Aside0 (Below w.heap.size w w57) := ⟨(by rw [hw]; exact (by repeat (with_reducible first | exact HB.out | refine below_set ?_ GE131.out)))⟩; clear hw; clear HO_14; clear HO_132000; clear HO_149001; clear HO_149002; clear HO154; clear BK130; clear BK131; clear BK148; clear HB; have HO_14 := n0_; have HO_132000 := n1_; have HO_149001 := n2_; have HO_149002 := n3_; have HO154 := n4_; have BK130 := n5_; have BK131 := n6_; have BK148 := n7_; have HB := n8_; clear n0_ n1_ n2_ n3_ n4_ n5_ n6_ n7_ n8_; have hcz58_0 : w57.cell? ⟨gb131, 0, none⟩ = some (u132000) := (blk_cell BK131.out 0).trans rfl; have hcz58_1 : w57.cell? ⟨gb131, 1, none⟩ = some (.slice Ao55 y152.length co55) := (blk_cell BK131.out 1).trans rfl; have hfz58_0 := blk_frozen BK131.out 0; have hfz58_1 := blk_frozen BK131.out 1; have hnb59 := NB148_130.out; have hnc59 := NB130_148.out; have hcz60_0 : w57.cell? ⟨gb148, 0, none⟩ = some (.string t138) := (blk_cell BK148.out 0).trans rfl; have hcz60_1 : w57.cell? ⟨gb148, 1, none⟩ = some (.slice Ao28 t139.length co28) := (blk_cell BK148.out 1).trans rfl; have hcz60_2 : w57.cell? ⟨gb148, 2, none⟩ = some (.slice Ao29 t142.length co29) := (blk_cell BK148.out 2).trans rfl; have hcz60_3 : w57.cell? ⟨gb148, 3, none⟩ = some (.bool t145) := (blk_cell BK148.out 3).trans rfl; have hcz60_4 : w57.cell? ⟨gb148, 4, none⟩ = some (.bool t146) := (blk_cell BK148.out 4).trans rfl; have hfz60_0 := blk_frozen BK148.out 0; have hfz60_1 := blk_frozen BK148.out 1; have hfz60_2 := blk_frozen BK148.out 2; have hfz60_3 := blk_frozen BK148.out 3; have hfz60_4 := blk_frozen BK148.out 4) | ((with_reducible refine gate_builtin (b := .append) (xs := #[.tmp 50, .tmp 52]) rfl ?_); (try (refine gate_guard (by rfl) ?_; dsimp only)); at_builtin; refine Kd.S_append k80 (w0 := w) w.heap.size rfl (.tmp 50) (.tmp 52) 22 80 (.agg #[(.string ⟨#[]⟩), (.slice none 0 0), (.slice none 0 0), (.bool false), (.bool false)]) 72 rfl Tryz.underlying22 info80 rfl (by decide) (by omega) u132000 x132000_1 (⟨t138, t139, t142, t145, t146⟩ : S80) [.string t138, .slice Ao28 t139.length co28, .slice Ao29 t142.length co29, .bool t145, .bool t146] (fun k_ => some k_ ≠ (.slice (some ad137) t134.length co10 : Value).ownBlock ∧ k_ ≠ gb148) (fun k_ => some k_ = (.slice Ao28 t139.length co28 : Value).ownBlock ∨ some k_ = (.slice Ao29 t142.length co29 : Value).ownBlock) rfl rfl ?aP (fun k_ hk_ => hk_.elim (fun h_ => ((Kd.R_mono (ok' := fun k_ => ((fun k_ => some k_ ≠ (.slice (some ad137) t134.length co10 : Value).ownBlock ∧ k_ ≠ gb148)) k_ ∧ some k_ ≠ (u132000 : Value).ownBlock) (Kd.R_types (Kd.R_apart' (HO_149001.out) (Kd.S_typed HO_132000.out) (by decide)) BK148.out (by decide)) (fun k_ hk => ⟨⟨hk.1.1.1, hk.2⟩, hk.1.2⟩))).1 k_ h_.symm) (fun h_ => ((Kd.R_mono (ok' := fun k_ => ((fun k_ => some k_ ≠ (.slice (some ad137) t134.length co10 : Value).ownBlock ∧ k_ ≠ gb148)) k_ ∧ some k_ ≠ (u132000 : Value).ownBlock) (Kd.R_types (Kd.R_apart' (HO_149002.out) (Kd.S_typed HO_132000.out) (by decide)) BK148.out (by decide)) (fun k_ hk => ⟨⟨hk.1.1.1, hk.2⟩, hk.1.2⟩))).1 k_ h_.symm)) ?aF ?aO ?aB ?aS ?aL ?_; (case aP => exact k80_mkM _ _ _ (⟨t138, t139, t142, t145, t146⟩ : S80) (Kd.R_mono (Kd.R_tight rfl (Kd.R_mono (ok' := fun k_ => ((fun k_ => some k_ ≠ (.slice (some ad137) t134.length co10 : Value).ownBlock ∧ k_ ≠ gb148)) k_ ∧ some k_ ≠ (u132000 : Value).ownBlock) (Kd.R_types (Kd.R_apart' (HO_149001.out) (Kd.S_typed HO_132000.out) (by decide)) BK148.out (by decide)) (fun k_ hk => ⟨⟨hk.1.1.1, hk.2⟩, hk.1.2⟩))) (fun _ h_ => Or.inl h_)) (Kd.R_mono (Kd.R_tight rfl (Kd.R_mono (ok' := fun k_ => ((fun k_ => some k_ ≠ (.slice (some ad137) t134.length co10 : Value).ownBlock ∧ k_ ≠ gb148)) k_ ∧ some k_ ≠ (u132000 : Value).ownBlock) (Kd.R_types (Kd.R_apart' (HO_149002.out) (Kd.S_typed HO_132000.out) (by decide)) BK148.out (by decide)) (fun k_ hk => ⟨⟨hk.1.1.1, hk.2⟩, hk.1.2⟩))) (fun _ h_ => Or.inr (h_)))); (case aB => exact HB.out); (case aF => exact (fun k_ hk => ⟨Kd.fresh' (Kd.R_lt HO_14.out) k_ hk, Kd.freshB (g := gb148) (o := .cells #[.string t138, .slice Ao28 t139.length co28, .slice Ao29 t142.length co29, .bool t145, .bool t146] 80 (0, 0)) BK148.out k_ hk⟩)); (case aO => exact (by exact Kd.S_mono HO_132000.out (fun k_ hk => ⟨⟨hk.1, hk.2.2.2⟩, fun e_ => e_.elim (fun h_ => hk.2.1 h_) (fun h_ => hk.2.2.1 h_)⟩))); (case aS => exact (below_size HB.out)); (case aL => have := LMc50.out; omega); intro v156 w61 ho hb hg hat; rw [← Ny155.out] at ho; have n0_ := Aside0.mk (Kd.R_over' HO_14.out (Kd.S_typed HO_132000.out) (by decide) hg); have n1_ := Aside0.mk (blk_grown (g := gb130) (o := .cells #[.slice none 0 0, .slice none 0 0] 25 (0, 0)) BK130.out hg (Kd.S_ne HO_132000.out BK130.out (by decide))); have n2_ := Aside0.mk (blk_grown (g := gb131) (o := .cells #[u132000, .slice Ao55 y152.length co55] 25 (0, 0)) BK131.out hg (Kd.S_ne HO_132000.out BK131.out (by decide))); have n3_ := Aside0.mk (blk_grown (g := gb148) (o := .cells #[.string t138, .slice Ao28 t139.length co28, .slice Ao29 t142.length co29, .bool t145, .bool t146] 80 (0, 0)) BK148.out hg (Kd.S_away HO_132000.out (fun _ hk => hk.2.2.2))); have n4_ := Aside0.mk (Kd.R_over' HO154.out (Kd.S_typed HO_132000.out) (by decide) hg); have n5_ := Aside0.mk (hb); have n6_ := Aside0.mk (ho); clear HO_14; clear BK130; clear BK131; clear BK148; clear HO154; clear HB; clear HO_132000; clear HO_149001; clear HO_149002; have HO_14 := n0_; have BK130 := n1_; have BK131 := n2_; have BK148 := n3_; have HO154 := n4_; have HB := n5_; have HO157 := n6_; clear n0_ n1_ n2_ n3_ n4_ n5_ n6_; clear ho hb hg hat; obtain ⟨Ao62, co62, eo62⟩ := Kd.S_slice HO157.out; subst eo62; have hcz63_0 : w61.cell? ⟨gb131, 0, none⟩ = some (u132000) := (blk_cell BK131.out 0).trans rfl; have hcz63_1 : w61.cell? ⟨gb131, 1, none⟩ = some (.slice Ao55 y152.length co55) := (blk_cell BK131.out 1).trans rfl; have hfz63_0 := blk_frozen BK131.out 0; have hfz63_1 := blk_frozen BK131.out 1))
             go_roundg kj21
             case measure => have := HK1.out; have := HJ21.out; omega
             case rel => exact ⟨(false), (false), (wrap64 (x16_1 + 1)), (y155), (y152), (.slice Ao62 y155.length co62), (.slice Ao55 y152.length co55), (by first | rfl), (by first | rfl), (by first | rfl), H', ⟨by have := HK1.out; have := HJ21.out; omega⟩, ⟨by exact Kd.R_mono (Kd.R_far (p := ⟨gb131, 0, none⟩) (Kd.R_types HO_14.out BK131.out (by decide)) (fun _ hk => hk.2) (.slice Ao62 y155.length co62)) (fun _ hk => trivial)⟩, ⟨by exact Kd.S_mono (Kd.S_far (p := ⟨gb131, 0, none⟩) (Kd.S_types HO157.out BK131.out (by decide)) (fun _ hk => hk.2) (.slice Ao62 y155.length co62)) (fun _ hk => hk.1.1)⟩, ⟨by exact Kd.R_mono (Kd.R_far (p := ⟨gb131, 0, none⟩) (Kd.R_types HO154.out BK131.out (by decide)) (fun _ hk => hk.2) (.slice Ao62 y155.length co62)) (fun _ hk => trivial)⟩, ⟨by refine blk_far ?_ NB130_131.out _; exact BK130.out⟩, ⟨by refine blk_put (cs := #[u132000, .slice Ao55 y152.length co55]) ?_ 0 _ rfl; exact BK131.out⟩, ⟨by repeat (with_reducible first | exact HB.out | refine below_set ?_ GE131.out)⟩⟩
            ·rw [if_neg c50] at H
             exact absurd H (by simp)
           ·rw [if_neg c49] at H
            exact absurd H (by simp)
     ·rw [if_neg c13] at H
      exact absurd H (by simp)
    ·rw [if_neg c12] at H
     exact absurd H (by simp)
   ·rw [if_neg c11] at H
    have c11b0 : decide (x16_1 < (t134.length : Int)) = false := decide_eq_false c11
    clear c11
    by_cases c64 : x6_1 = true
    ·subst c64
     have H1 : (some (([] : List (S80)), ([] : List Bool), false)) = some (r1, r2, r3) := by rw [if_pos rfl] at H; exact H
     clear H
     have H := H1
     clear H1
     simp only [Option.some.injEq, Prod.mk.injEq] at H
     obtain ⟨rfl, rfl, rfl⟩ := H
     have hnb65 := NB130_131.out
     have hnc65 := NB131_130.out
     have hcz66_0 : wr.cell? ⟨gb130, 0, none⟩ = some (.slice none 0 0) := (blk_cell BK130.out 0).trans rfl
     have hcz66_1 : wr.cell? ⟨gb130, 1, none⟩ = some (.slice none 0 0) := (blk_cell BK130.out 1).trans rfl
     have hfz66_0 := blk_frozen BK130.out 0
     have hfz66_1 := blk_frozen BK130.out 1
     go_wp2
     refine bodyPost_ret (results_ct rfl _ _ gb130 25 #[.slice none 0 0, .slice none 0 0] (0, 0) _ rfl (by refine blk_put (cs := #[.slice none 0 0, .slice none 0 0]) ?_ 1 _ rfl; refine blk_put (cs := #[.slice none 0 0, .slice none 0 0]) ?_ 0 _ rfl; exact BK130.out) Tryz.underlying25 rfl (by kernel_rfl)) rfl ?_
     exact ⟨_, _, by first | rfl, by exact Kd.S_nil _ _ _ _ _, by exact Kd.R_nil _ _ _ _ _, by repeat (with_reducible first | exact HB.out | refine below_set ?_ GE130.out)⟩
    ·replace c64 := Bool.eq_false_iff.mpr c64
     subst c64
     have H1 : (if x5_1 = true then (some (([] : List (S80)), ([] : List Bool), false)) else (some (x132000_1, x132001_1, true))) = some (r1, r2, r3) := by rw [if_neg (show ¬ (false = true) by decide)] at H; exact H
     clear H
     have H := H1
     clear H1
     by_cases c67 : x5_1 = true
     ·subst c67
      have H1 : (some (([] : List (S80)), ([] : List Bool), false)) = some (r1, r2, r3) := by rw [if_pos rfl] at H; exact H
      clear H
      have H := H1
      clear H1
      simp only [Option.some.injEq, Prod.mk.injEq] at H
      obtain ⟨rfl, rfl, rfl⟩ := H
      have hnb68 := NB130_131.out
      have hnc68 := NB131_130.out
      have hcz69_0 : wr.cell? ⟨gb130, 0, none⟩ = some (.slice none 0 0) := (blk_cell BK130.out 0).trans rfl
      have hcz69_1 : wr.cell? ⟨gb130, 1, none⟩ = some (.slice none 0 0) := (blk_cell BK130.out 1).trans rfl
      have hfz69_0 := blk_frozen BK130.out 0
      have hfz69_1 := blk_frozen BK130.out 1
      go_wp2
      refine bodyPost_ret (results_ct rfl _ _ gb130 25 #[.slice none 0 0, .slice none 0 0] (0, 0) _ rfl (by refine blk_put (cs := #[.slice none 0 0, .slice none 0 0]) ?_ 1 _ rfl; refine blk_put (cs := #[.slice none 0 0, .slice none 0 0]) ?_ 0 _ rfl; exact BK130.out) Tryz.underlying25 rfl (by kernel_rfl)) rfl ?_
      exact ⟨_, _, by first | rfl, by exact Kd.S_nil _ _ _ _ _, by exact Kd.R_nil _ _ _ _ _, by repeat (with_reducible first | exact HB.out | refine below_set ?_ GE130.out)⟩
     ·replace c67 := Bool.eq_false_iff.mpr c67
      subst c67
      have H1 : (some (x132000_1, x132001_1, true)) = some (r1, r2, r3) := by rw [if_neg (show ¬ (false = true) by decide)] at H; exact H
      clear H
      have H := H1
      clear H1
      simp only [Option.some.injEq, Prod.mk.injEq] at H
      obtain ⟨rfl, rfl, rfl⟩ := H
      have hnb70 := NB131_130.out
      have hnc70 := NB130_131.out
      have hcz71_0 : wr.cell? ⟨gb131, 0, none⟩ = some (u132000) := (blk_cell BK131.out 0).trans rfl
      have hcz71_1 : wr.cell? ⟨gb131, 1, none⟩ = some (u132001) := (blk_cell BK131.out 1).trans rfl
      have hfz71_0 := blk_frozen BK131.out 0
      have hfz71_1 := blk_frozen BK131.out 1
      obtain ⟨Ao72, co72, eo72⟩ := Kd.S_slice HO_132000.out
      subst eo72
      have hcz73_0 : wr.cell? ⟨gb130, 0, none⟩ = some (.slice none 0 0) := (blk_cell BK130.out 0).trans rfl
      have hcz73_1 : wr.cell? ⟨gb130, 1, none⟩ = some (.slice none 0 0) := (blk_cell BK130.out 1).trans rfl
      have hfz73_0 := blk_frozen BK130.out 0
      have hfz73_1 := blk_frozen BK130.out 1
      obtain ⟨Ao74, co74, eo74⟩ := Kd.R_slice HO_132001.out
      subst eo74
      go_wp2
      refine bodyPost_ret (results_ct rfl _ _ gb130 25 #[.slice Ao72 x132000_1.length co72, .slice Ao74 x132001_1.length co74] (0, 0) _ rfl (by refine blk_put (cs := #[.slice Ao72 x132000_1.length co72, .slice none 0 0]) ?_ 1 _ rfl; refine blk_put (cs := #[.slice none 0 0, .slice none 0 0]) ?_ 0 _ rfl; exact BK130.out) Tryz.underlying25 rfl (by kernel_rfl)) rfl ?_
      exact ⟨_, _, by first | rfl, by exact Kd.S_mono (Kd.S_far (p := ⟨gb130, 1, none⟩) (Kd.S_far (p := ⟨gb130, 0, none⟩) (Kd.S_types HO_132000.out BK130.out (by decide)) (fun _ hk => hk.2) (.slice Ao72 x132000_1.length co72)) (fun _ hk => hk.2) (.slice Ao74 x132001_1.length co74)) (fun _ hk => trivial), by exact Kd.R_mono (Kd.R_far (p := ⟨gb130, 1, none⟩) (Kd.R_far (p := ⟨gb130, 0, none⟩) (Kd.R_types HO_132001.out BK130.out (by decide)) (fun _ hk => hk.2) (.slice Ao72 x132000_1.length co72)) (fun _ hk => hk.2) (.slice Ao74 x132001_1.length co74)) (fun _ hk => trivial), by repeat (with_reducible first | exact HB.out | refine below_set ?_ GE130.out)⟩

/-! ### scan_Split: function 47 (by hand) -/
def scan_Split.f (a0 : ByteArray) (a1 : Int) : Option (List ByteArray) := if a0.size < 4294967281 then some (Go.Proofs.Scn.splitV a0 (UInt8.ofNat a1.toNat)) else none
theorem scan_Split.calls (a0 : ByteArray) (a1 : Int) (r : List ByteArray) (w : World) (h : scan_Split.f a0 a1 = some r) :
  Calls Tryz.prog 47 #[.string a0, .int .u8 a1] w fun e w' => ∃ v0_ : Value, e = .returned (v0_) ∧ Kd.R Kd.string 9 w' w.heap.size (fun _ => True) v0_ r ∧ Below w.heap.size w w' := by
 unfold scan_Split.f at h
 by_cases h1 : a0.size < 4294967281
 ·rw [if_pos h1] at h
  cases h
  exact Go.Proofs.Scn.split_any a0 a1 w h1
 ·rw [if_neg h1] at h; cases h


/-! ### selector_List: function 14 -/
def selector_List.l0 : Nat → List (S25) → List ByteArray → Int → Int → Option ((List (S25)) × Bool)
 | 0, _, _, _, _ => none
 | k + 1, x4, x10, x11, x12 => if x12 < x11 then (if 0 ≤ x12 then (if x12 < (x10.length : Int) then ((selector_Read.f k (rdOf ByteArray.empty x10 x12)).bind fun bt162 => (if bt162.2.2 = true then (if x4.length < 2932031007402 then (selector_List.l0 k (x4 ++ [(⟨bt162.1, bt162.2.1⟩ : S25)]) x10 x11 (wrap64 (x12 + 1))) else (none)) else (some (([] : List (S25)), false)))) else (none)) else (none)) else (some (x4, true))
def selector_List.f (k : Nat) (a0 : ByteArray) : Option ((List (S25)) × Bool) := (scan_Split.f a0 44).bind fun t158 => (selector_List.l0 k ([] : List (S25)) t158 (t158.length : Int) 0)
theorem selector_List.mono_l : ∀ k, (∀ y0 y1 y2 y3, LeO (selector_List.l0 k y0 y1 y2 y3) (selector_List.l0 (k + 1) y0 y1 y2 y3))
 | 0 => fun _ _ _ _ r h => by simp [selector_List.l0] at h
 | k + 1 => by
  have ih0 := selector_List.mono_l k
  ·intro y0 y1 y2 y3
   unfold selector_List.l0
   repeat' first
   | (with_reducible exact ih0 _ _ _ _)
   | (with_reducible exact selector_Read.mono _ _)
   | (with_reducible exact LeO.refl _)
   | (with_reducible exact LeO.none _)
   | (with_reducible refine LeO.ite ?_ ?_)
   | (with_reducible refine LeO.bind ?_ (fun _ => ?_))
   | exact ih0 _ _ _ _
   | exact selector_Read.mono _ _
   | exact LeO.none _
   | refine LeO.ite ?_ ?_
   | refine LeO.bind ?_ (fun _ => ?_)
theorem selector_List.mono : ∀ a0 k, LeO (selector_List.f k a0) (selector_List.f (k + 1) a0) := by
 intro a0 k
 have ih0 := selector_List.mono_l k
 unfold selector_List.f
 repeat' first
   | (with_reducible exact ih0 _ _ _ _)
   | (with_reducible exact selector_Read.mono _ _)
   | (with_reducible exact LeO.refl _)
   | (with_reducible exact LeO.none _)
   | (with_reducible refine LeO.ite ?_ ?_)
   | (with_reducible refine LeO.bind ?_ (fun _ => ?_))
   | exact ih0 _ _ _ _
   | exact selector_Read.mono _ _
   | exact LeO.none _
   | refine LeO.ite ?_ ?_
   | refine LeO.bind ?_ (fun _ => ?_)
set_option maxHeartbeats 8000000 in
set_option maxRecDepth 100000 in
theorem selector_List.calls (k : Nat) (a0 : ByteArray) (r1 : List (S25)) (r2 : Bool) (w : World) (h : selector_List.f k a0 = some (r1, r2)) (hmx : Go.Proofs.Sht.Env w) :
  Calls Tryz.prog 14 #[.string a0] w fun e w' => ∃ v0_ : Value, e = .returned (.tuple #[v0_, .bool r2]) ∧ Kd.R k25 25 w' w.heap.size (fun _ => True) v0_ r1 ∧ Below w.heap.size w w' := by
 have HMX := Aside0.mk hmx
 clear hmx
 have hu25 := Tryz.underlying25
 have HB := Aside0.mk (Below.refl w.heap.size w)
 have H : ((scan_Split.f a0 44).bind fun t158 => (selector_List.l0 k ([] : List (S25)) t158 (t158.length : Int) 0)) = some (r1, r2) := h
 clear h
 replace H := Option.bind_eq_some_iff.mp H
 obtain ⟨t158, A20, H⟩ := H
 replace H : (selector_List.l0 k ([] : List (S25)) t158 (t158.length : Int) 0) = some (r1, r2) := H
 have A2 := Aside0.mk A20
 clear A20
 have H' := Aside0.mk H
 clear H
 go_enter Tryz.func14, Tryz.ntmps14
 go_wp2_with (first | ((with_reducible refine gate_callee (f := 47) rfl ?_); refine goesL_ (some 10) rfl rfl Tryz.func47 (by kernel_rfl) rfl #[.string a0, .int .u8 44] rfl (by (try simp only [List.map_toArray, List.map_cons, List.map_nil]); first | rfl) ?_; (with_reducible refine (scan_Split.calls a0 44 t158 _ A2.out).mono ?_); rintro e w3 ⟨v159, rfl, ho0, hb⟩; refine ⟨_, rfl, ?_⟩; have n0_ := Aside0.mk (Kd.R_lower ho0 (below_size HB.out)); have n1_ := Aside0.mk (below_step HB.out hb); clear HB; have HO160 := n0_; have HB := n1_; clear n0_ n1_; (try clear hb); (try clear hb2); (try clear hk); (try clear hi); (try clear ho0); obtain ⟨Ao4, co4, eo4⟩ := Kd.R_slice HO160.out; subst eo4))
 go_loopg [4, 12] k (fun kq v4 v12 w' => ∃ (x4_1 : List (S25)) (x12_1 : Int), v12 = .int .i64 x12_1 ∧ Aside0 (selector_List.l0 kq x4_1 t158 (t158.length : Int) x12_1 = some (r1, r2)) ∧ Aside0 (kq ≤ k) ∧ Aside0 (Kd.R k25 25 w' w.heap.size (fun k_ => some k_ ≠ ((.slice Ao4 t158.length co4) : Value).ownBlock) v4 x4_1) ∧ Aside0 (Kd.R Kd.string 9 w' w.heap.size (fun _ => True) (.slice Ao4 t158.length co4) t158) ∧ Aside0 (Below w.heap.size w w'))
 case atStart => exact ⟨(([] : List (S25))), (0), (by first | rfl), H', ⟨Nat.le_refl _⟩, ⟨by exact Kd.R_nil _ _ _ _ _⟩, ⟨by exact HO160.out⟩, ⟨by exact HB.out⟩⟩
 case round =>
  clear H'
  try clear c1
  try clear p2
  try clear c4
  obtain ⟨x4_1, x12_1, rfl, HA, HK1, HO_4, HO_10, HB⟩ := hrel
  cases gk with
  | zero => exact absurd HA.out (by simp [selector_List.l0])
  | succ k1 =>
   have H := HA.out
   clear HA
   simp only [selector_List.l0] at H
   by_cases c5 : x12_1 < (t158.length : Int)
   ·rw [if_pos c5] at H
    have c5b0 : decide (x12_1 < (t158.length : Int)) = true := decide_eq_true c5
    clear c5
    by_cases c6 : 0 ≤ x12_1
    ·rw [if_pos c6] at H
     have c6b0 : decide (0 ≤ x12_1) = true := decide_eq_true c6
     clear c6
     by_cases c7 : x12_1 < (t158.length : Int)
     ·rw [if_pos c7] at H
      have c7b0 : decide (x12_1 < (t158.length : Int)) = true := decide_eq_true c7
      clear c7
      replace H := Option.bind_eq_some_iff.mp H
      obtain ⟨⟨t162, t165, t168⟩, A80, H⟩ := H
      replace H : (if t168 = true then (if x4_1.length < 2932031007402 then (selector_List.l0 k1 (x4_1 ++ [(⟨t162, t165⟩ : S25)]) t158 (t158.length : Int) (wrap64 (x12_1 + 1))) else (none)) else (some (([] : List (S25)), false))) = some (r1, r2) := H
      have A8 := Aside0.mk A80
      clear A80
      by_cases c9 : t168 = true
      ·subst c9
       have H1 : (if x4_1.length < 2932031007402 then (selector_List.l0 k1 (x4_1 ++ [(⟨t162, t165⟩ : S25)]) t158 (t158.length : Int) (wrap64 (x12_1 + 1))) else (none)) = some (r1, r2) := by rw [if_pos rfl] at H; exact H
       clear H
       have H := H1
       clear H1
       by_cases c10 : x4_1.length < 2932031007402
       ·rw [if_pos c10] at H
        have LMc10 := Aside0.mk c10
        clear c10
        obtain ⟨y170, hy170⟩ : ∃ y_ : List (S25), y_ = (x4_1 ++ [(⟨t162, t165⟩ : S25)]) := ⟨_, rfl⟩
        replace H : (selector_List.l0 k1 y170 t158 (t158.length : Int) (wrap64 (x12_1 + 1))) = some (r1, r2) := by first | (rw [hy170]; with_reducible exact H)
        have Ny170 := Aside0.mk hy170
        clear hy170
        have H' := Aside0.mk H
        clear H
        have p161 : 0 ≤ (x12_1 : Int) := of_decide_eq_true (by first | (with_reducible assumption))
        have q161 : x12_1 < (t158.length : Int) := of_decide_eq_true (by first | (with_reducible assumption))
        obtain ⟨ad161, e161, hx161_0⟩ := Kd.at_string (Kd.R_reads' HO_10.out).2.2 x12_1 p161 q161
        cases e161
        replace p161 := eq_true p161
        replace q161 := eq_true q161
        go_wp2_with (first | ((with_reducible refine gate_callee (f := 12) rfl ?_); refine goesL_ (some 18) rfl rfl Tryz.func12 (by kernel_rfl) rfl #[.string (rdOf ByteArray.empty t158 x12_1)] rfl (by (try simp only [List.map_toArray, List.map_cons, List.map_nil]); first | rfl) ?_; (with_reducible refine (selector_Read.calls k1 (rdOf ByteArray.empty t158 x12_1) t162 t165 true _ A8.out (HMX.out.below HB.out)).mono ?_); rintro e w11 ⟨v163, v166, rfl, ho0, ho1, hb⟩; refine ⟨_, rfl, ?_⟩; have n0_ := Aside0.mk (Kd.R_mono (Kd.R_told (Kd.R_told (Kd.R_old HO_4.out hb) (Kd.S_base ho0)) (Kd.R_base ho1)) (fun _ h_ => h_.1)); have n1_ := Aside0.mk (Kd.R_below HO_10.out hb); have n2_ := Aside0.mk (Kd.S_lower (Kd.S_new' ho0 (Kd.R_lt HO_10.out)) (below_size HB.out)); have n3_ := Aside0.mk (Kd.R_lower ho1 (below_size HB.out)); have n4_ := Aside0.mk (below_step HB.out hb); clear HO_4; clear HO_10; clear HB; have HO_4 := n0_; have HO_10 := n1_; have HO164 := n2_; have HO167 := n3_; have HB := n4_; clear n0_ n1_ n2_ n3_ n4_; (try clear hb); (try clear hb2); (try clear hk); (try clear hi); (try clear ho0); (try clear ho1)) | ((with_reducible refine gate_dst (N := 7) rfl ?_); refine box_event ?hg (N := 7) ?hd (cs := #[.slice none 0 0, .slice none 0 0]) (t := 25) ?hr ?_; (case hd => rfl); (case hg => rfl); (case hr => first | (go_simp; done)); intro gb169 hg w12 hbox hb; have n0_ := Aside0.mk (Kd.R_below (Kd.R_elderB HO_4.out gb169 (Nat.le_of_eq hg.symm)) hb); have n1_ := Aside0.mk (Kd.R_below HO_10.out hb); have n2_ := Aside0.mk (Kd.S_below HO164.out hb); have n3_ := Aside0.mk (Kd.R_below HO167.out hb); have n4_ := Aside0.mk (below_step HB.out hb); have n5_ := Aside0.mk (hbox); have n6_ := Aside0.mk ((by rw [hg]; exact (below_size HB.out) : w.heap.size ≤ gb169)); have n7_ := Aside0.mk ((by rw [hg]; exact (below_size HB.out) : w.heap.size ≤ gb169)); clear HO_4; clear HO_10; clear HO164; clear HO167; clear HB; have HO_4 := n0_; have HO_10 := n1_; have HO164 := n2_; have HO167 := n3_; have HB := n4_; have BK169 := n5_; have GW169 := n6_; have GE169 := n7_; clear n0_ n1_ n2_ n3_ n4_ n5_ n6_ n7_; clear hb hbox hg; obtain ⟨Ao13, co13, eo13⟩ := Kd.S_slice HO164.out; subst eo13; have hcz14_0 : w12.cell? ⟨gb169, 0, none⟩ = some (.slice none 0 0) := (blk_cell BK169.out 0).trans rfl; have hcz14_1 : w12.cell? ⟨gb169, 1, none⟩ = some (.slice none 0 0) := (blk_cell BK169.out 1).trans rfl; have hfz14_0 := blk_frozen BK169.out 0; have hfz14_1 := blk_frozen BK169.out 1; obtain ⟨Ao15, co15, eo15⟩ := Kd.R_slice HO167.out; subst eo15) | ((with_reducible refine gate_store (t := 25) (p := 7) rfl ?_); refine store_event (t := 25) (p := 7) (v := ?vo_w16) (w1 := ((w12.setCell ⟨gb169, 0, none⟩ (.slice Ao13 t162.length co13)).setCell ⟨gb169, 1, none⟩ (.slice Ao15 t165.length co15))) ?hg ?ho ?hn ?hr ?_; (case ho => rfl); (case hg => rfl); (case hn => rfl); (case hr => first | (go_simp; done)); intro w16 hw; have n0_ : Aside0 (Kd.R k25 25 w16 w.heap.size (fun k_ => some k_ ≠ (.slice (some ad161) t158.length co4 : Value).ownBlock ∧ some k_ ≠ (.slice Ao13 t162.length co13 : Value).ownBlock ∧ some k_ ≠ (.slice Ao15 t165.length co15 : Value).ownBlock ∧ k_ ≠ gb169) u4 x4_1) := ⟨(by rw [hw]; exact (by exact Kd.R_mono (Kd.R_far (p := ⟨gb169, 1, none⟩) (Kd.R_far (p := ⟨gb169, 0, none⟩) (Kd.R_mono HO_4.out (fun k_ hk => (⟨hk, hk.2⟩ : _ ∧ k_ ≠ gb169))) (fun _ hk => hk.2) (.slice Ao13 t162.length co13)) (fun _ hk => hk.2) (.slice Ao15 t165.length co15)) (fun _ hk => ⟨hk.1.1.1.1, ⟨hk.1.1.1.2, ⟨hk.1.1.2, hk.1.2⟩⟩⟩)))⟩; have n1_ : Aside0 (Kd.R Kd.string 9 w16 w.heap.size (fun _ => True) (.slice (some ad161) t158.length co4) t158) := ⟨(by rw [hw]; exact (by exact Kd.R_mono (Kd.R_far (p := ⟨gb169, 1, none⟩) (Kd.R_far (p := ⟨gb169, 0, none⟩) (Kd.R_types HO_10.out BK169.out (by decide)) (fun _ hk => hk.2) (.slice Ao13 t162.length co13)) (fun _ hk => hk.2) (.slice Ao15 t165.length co15)) (fun _ hk => trivial)))⟩; have n2_ : Aside0 (Kd.S k80 80 w16 w.heap.size (fun k_ => some k_ ≠ (.slice (some ad161) t158.length co4 : Value).ownBlock) (.slice Ao13 t162.length co13) t162) := ⟨(by rw [hw]; exact (by exact Kd.S_mono (Kd.S_far (p := ⟨gb169, 1, none⟩) (Kd.S_far (p := ⟨gb169, 0, none⟩) (Kd.S_types HO164.out BK169.out (by decide)) (fun _ hk => hk.2) (.slice Ao13 t162.length co13)) (fun _ hk => hk.2) (.slice Ao15 t165.length co15)) (fun _ hk => hk.1.2)))⟩; have n3_ : Aside0 (Kd.R Kd.bool 4 w16 w.heap.size (fun _ => True) (.slice Ao15 t165.length co15) t165) := ⟨(by rw [hw]; exact (by exact Kd.R_mono (Kd.R_far (p := ⟨gb169, 1, none⟩) (Kd.R_far (p := ⟨gb169, 0, none⟩) (Kd.R_types HO167.out BK169.out (by decide)) (fun _ hk => hk.2) (.slice Ao13 t162.length co13)) (fun _ hk => hk.2) (.slice Ao15 t165.length co15)) (fun _ hk => trivial)))⟩; have n4_ : Aside0 (w16.heap[gb169]? = some (.cells #[.slice Ao13 t162.length co13, .slice Ao15 t165.length co15] 25 (0, 0))) := ⟨(by rw [hw]; exact (by refine blk_put (cs := #[.slice Ao13 t162.length co13, .slice none 0 0]) ?_ 1 _ rfl; refine blk_put (cs := #[.slice none 0 0, .slice none 0 0]) ?_ 0 _ rfl; exact BK169.out))⟩; have n5_ : Aside0 (Below w.heap.size w w16) := ⟨(by rw [hw]; exact (by repeat (with_reducible first | exact HB.out | refine below_set ?_ GE169.out)))⟩; clear hw; clear HO_4; clear HO_10; clear HO164; clear HO167; clear BK169; clear HB; have HO_4 := n0_; have HO_10 := n1_; have HO164 := n2_; have HO167 := n3_; have BK169 := n4_; have HB := n5_; clear n0_ n1_ n2_ n3_ n4_ n5_; have hcz17_0 : w16.cell? ⟨gb169, 0, none⟩ = some (.slice Ao13 t162.length co13) := (blk_cell BK169.out 0).trans rfl; have hcz17_1 : w16.cell? ⟨gb169, 1, none⟩ = some (.slice Ao15 t165.length co15) := (blk_cell BK169.out 1).trans rfl; have hfz17_0 := blk_frozen BK169.out 0; have hfz17_1 := blk_frozen BK169.out 1) | ((with_reducible refine gate_builtin (b := .append) (xs := #[.tmp 23, .tmp 25]) rfl ?_); at_builtin; refine Kd.R_append k25 (w0 := w) w.heap.size rfl (.tmp 23) (.tmp 25) 36 25 (.agg #[(.slice none 0 0), (.slice none 0 0)]) 48 rfl Tryz.underlying36 info25 rfl (by decide) (by omega) u4 x4_1 (⟨t162, t165⟩ : S25) [.slice Ao13 t162.length co13, .slice Ao15 t165.length co15] (fun k_ => some k_ ≠ (.slice (some ad161) t158.length co4 : Value).ownBlock ∧ k_ ≠ gb169) (fun k_ => ((fun k_ => some k_ ≠ (.slice (some ad161) t158.length co4 : Value).ownBlock ∧ k_ ≠ gb169)) k_ ∧ some k_ ≠ (u4 : Value).ownBlock) rfl rfl ?aP (fun _ hk => hk) ?aF ?aO ?aB ?aS ?aL ?_; (case aP => exact k25_mkM _ _ _ (⟨t162, t165⟩ : S25) (Kd.R_mono (Kd.R_types (Kd.R_apart' ((Kd.S_R HO164.out)) (Kd.R_typed HO_4.out) (by decide)) BK169.out (by decide)) (fun k_ hk => ⟨⟨hk.1.1, hk.2⟩, hk.1.2⟩)) (Kd.R_mono (Kd.R_types (Kd.R_apart' (Kd.R_apart' (HO167.out) (Kd.R_typed HO_10.out) (by decide)) (Kd.R_typed HO_4.out) (by decide)) BK169.out (by decide)) (fun k_ hk => ⟨⟨hk.1.1.2, hk.2⟩, hk.1.2⟩))); (case aB => exact HB.out); (case aF => exact (fun k_ hk => ⟨Kd.fresh' (Kd.R_lt HO_10.out) k_ hk, Kd.freshB (g := gb169) (o := .cells #[.slice Ao13 t162.length co13, .slice Ao15 t165.length co15] 25 (0, 0)) BK169.out k_ hk⟩)); (case aO => exact (by exact Kd.R_mono HO_4.out (fun _ hk => ⟨hk.1, hk.2.2.2⟩))); (case aS => exact (below_size HB.out)); (case aL => have := LMc10.out; omega); intro v171 w18 ho hb hg hat; rw [← Ny170.out] at ho; have n0_ := Aside0.mk (Kd.R_over' HO_10.out (Kd.R_typed HO_4.out) (by decide) hg); have n1_ := Aside0.mk (blk_grown (g := gb169) (o := .cells #[.slice Ao13 t162.length co13, .slice Ao15 t165.length co15] 25 (0, 0)) BK169.out hg (Kd.R_away HO_4.out (fun _ hk => hk.2.2.2))); have n2_ := Aside0.mk (hb); have n3_ := Aside0.mk (ho); clear HO_10; clear BK169; clear HB; clear HO_4; clear HO164; clear HO167; have HO_10 := n0_; have BK169 := n1_; have HB := n2_; have HO172 := n3_; clear n0_ n1_ n2_ n3_; clear ho hb hg hat))
        go_roundg k1
        case measure => have := HK1.out; omega
        case rel => exact ⟨(y170), (wrap64 (x12_1 + 1)), (by first | rfl), H', ⟨by have := HK1.out; omega⟩, ⟨by exact Kd.R_mono HO172.out (fun _ hk => hk.1)⟩, ⟨by exact HO_10.out⟩, ⟨by exact HB.out⟩⟩
       ·rw [if_neg c10] at H
        exact absurd H (by simp)
      ·replace c9 := Bool.eq_false_iff.mpr c9
       subst c9
       have H1 : (some (([] : List (S25)), false)) = some (r1, r2) := by rw [if_neg (show ¬ (false = true) by decide)] at H; exact H
       clear H
       have H := H1
       clear H1
       simp only [Option.some.injEq, Prod.mk.injEq] at H
       obtain ⟨rfl, rfl⟩ := H
       have p161 : 0 ≤ (x12_1 : Int) := of_decide_eq_true (by first | (with_reducible assumption))
       have q161 : x12_1 < (t158.length : Int) := of_decide_eq_true (by first | (with_reducible assumption))
       obtain ⟨ad161, e161, hx161_0⟩ := Kd.at_string (Kd.R_reads' HO_10.out).2.2 x12_1 p161 q161
       cases e161
       replace p161 := eq_true p161
       replace q161 := eq_true q161
       go_wp2_with (first | ((with_reducible refine gate_callee (f := 12) rfl ?_); refine goesL_ (some 18) rfl rfl Tryz.func12 (by kernel_rfl) rfl #[.string (rdOf ByteArray.empty t158 x12_1)] rfl (by (try simp only [List.map_toArray, List.map_cons, List.map_nil]); first | rfl) ?_; (with_reducible refine (selector_Read.calls k1 (rdOf ByteArray.empty t158 x12_1) t162 t165 false _ A8.out (HMX.out.below HB.out)).mono ?_); rintro e w19 ⟨v163, v166, rfl, ho0, ho1, hb⟩; refine ⟨_, rfl, ?_⟩; have n0_ := Aside0.mk (Kd.R_mono (Kd.R_told (Kd.R_told (Kd.R_old HO_4.out hb) (Kd.S_base ho0)) (Kd.R_base ho1)) (fun _ h_ => h_.1)); have n1_ := Aside0.mk (Kd.R_below HO_10.out hb); have n2_ := Aside0.mk (Kd.S_lower (Kd.S_new' ho0 (Kd.R_lt HO_10.out)) (below_size HB.out)); have n3_ := Aside0.mk (Kd.R_lower ho1 (below_size HB.out)); have n4_ := Aside0.mk (below_step HB.out hb); clear HO_4; clear HO_10; clear HB; have HO_4 := n0_; have HO_10 := n1_; have HO164 := n2_; have HO167 := n3_; have HB := n4_; clear n0_ n1_ n2_ n3_ n4_; (try clear hb); (try clear hb2); (try clear hk); (try clear hi); (try clear ho0); (try clear ho1)) | ((with_reducible refine gate_dst (N := 7) rfl ?_); refine box_event ?hg (N := 7) ?hd (cs := #[.slice none 0 0, .slice none 0 0]) (t := 25) ?hr ?_; (case hd => rfl); (case hg => rfl); (case hr => first | (go_simp; done)); intro gb169 hg w20 hbox hb; have n0_ := Aside0.mk (Kd.R_below (Kd.R_elderB HO_4.out gb169 (Nat.le_of_eq hg.symm)) hb); have n1_ := Aside0.mk (Kd.R_below HO_10.out hb); have n2_ := Aside0.mk (Kd.S_below HO164.out hb); have n3_ := Aside0.mk (Kd.R_below HO167.out hb); have n4_ := Aside0.mk (below_step HB.out hb); have n5_ := Aside0.mk (hbox); have n6_ := Aside0.mk ((by rw [hg]; exact (below_size HB.out) : w.heap.size ≤ gb169)); have n7_ := Aside0.mk ((by rw [hg]; exact (below_size HB.out) : w.heap.size ≤ gb169)); clear HO_4; clear HO_10; clear HO164; clear HO167; clear HB; have HO_4 := n0_; have HO_10 := n1_; have HO164 := n2_; have HO167 := n3_; have HB := n4_; have BK169 := n5_; have GW169 := n6_; have GE169 := n7_; clear n0_ n1_ n2_ n3_ n4_ n5_ n6_ n7_; clear hb hbox hg; obtain ⟨Ao21, co21, eo21⟩ := Kd.S_slice HO164.out; subst eo21; have hcz22_0 : w20.cell? ⟨gb169, 0, none⟩ = some (.slice none 0 0) := (blk_cell BK169.out 0).trans rfl; have hcz22_1 : w20.cell? ⟨gb169, 1, none⟩ = some (.slice none 0 0) := (blk_cell BK169.out 1).trans rfl; have hfz22_0 := blk_frozen BK169.out 0; have hfz22_1 := blk_frozen BK169.out 1; obtain ⟨Ao23, co23, eo23⟩ := Kd.R_slice HO167.out; subst eo23))
       go_ret2
       exact ⟨_, by first | rfl, by exact Kd.R_nil _ _ _ _ _, by repeat (with_reducible first | exact HB.out | refine below_set ?_ GE169.out)⟩
     ·rw [if_neg c7] at H
      exact absurd H (by simp)
    ·rw [if_neg c6] at H
     exact absurd H (by simp)
   ·rw [if_neg c5] at H
    have c5b0 : decide (x12_1 < (t158.length : Int)) = false := decide_eq_false c5
    clear c5
    simp only [Option.some.injEq, Prod.mk.injEq] at H
    obtain ⟨rfl, rfl⟩ := H
    go_wp2
    go_ret2
    exact ⟨_, by first | rfl, by exact Kd.R_mono HO_4.out (fun _ hk => trivial), by exact HB.out⟩

/-! ### sheet_decls: function 68 (by hand) -/
def sheet_decls.it (x : Go.Proofs.Sht.Dc) : S111 := ⟨x.1, ⟨x.2.1, x.2.2.1⟩, x.2.2.2⟩
def sheet_decls.f (a0 : ByteArray) : Option (List (S111)) := if a0.size < 4294967281 then some ((Go.Proofs.Sht.declV a0).map sheet_decls.it) else none
theorem sheet_decls.calls (a0 : ByteArray) (r : List (S111)) (w : World) (h : sheet_decls.f a0 = some r) :
  Calls Tryz.prog 68 #[.string a0] w fun e w' => ∃ v0_ : Value, e = .returned (v0_) ∧ Kd.R k111 111 w' w.heap.size (fun _ => True) v0_ r ∧ Below w.heap.size w w' := by
 unfold sheet_decls.f at h
 by_cases h1 : a0.size < 4294967281
 ·rw [if_pos h1] at h
  cases h
  refine (Go.Proofs.Sht.declC a0 w h1).mono fun e w' hq => ?_
  obtain ⟨v, he, hR, hB⟩ := hq
  refine ⟨v, he, Go.Proofs.Sht.R_to (d := Go.Proofs.Sht.kDc) (d' := k111) rfl (fun W ok x cs hM => ?_) hR, hB⟩
  obtain ⟨_, _, rfl, rfl, ⟨_, _, rfl, rfl, ⟨_, _, rfl, rfl, rfl⟩⟩⟩ := hM
  exact ⟨[.int .i64 x.1], [.int .i64 x.2.1, .int .i64 x.2.2.1, .bool x.2.2.2], rfl, rfl, ⟨[.int .i64 x.2.1, .int .i64 x.2.2.1], [.bool x.2.2.2], rfl, ⟨[.int .i64 x.2.1], [.int .i64 x.2.2.1], rfl, rfl, rfl⟩, rfl⟩⟩
 ·rw [if_neg h1] at h; cases h


/-! ### sheet_Decls: function 32 -/
def sheet_Decls.l0 : Nat → List (S111) → List ByteArray → Int → Int → Option ((List (S111)))
 | 0, _, _, _, _ => none
 | k + 1, x3, x7, x8, x9 => if x9 < x8 then (if 0 ≤ x9 then (if x9 < (x7.length : Int) then ((sheet_decls.f (rdOf ByteArray.empty x7 x9)).bind fun t177 => (if x3.length + t177.length < 4398046511104 then (sheet_Decls.l0 k (x3 ++ t177) x7 x8 (wrap64 (x9 + 1))) else (none))) else (none)) else (none)) else (some x3)
def sheet_Decls.f (k : Nat) (a0 : ByteArray) : Option ((List (S111))) := (scan_Split.f a0 59).bind fun t173 => (sheet_Decls.l0 k ([] : List (S111)) t173 (t173.length : Int) 0)
theorem sheet_Decls.mono_l : ∀ k, (∀ y0 y1 y2 y3, LeO (sheet_Decls.l0 k y0 y1 y2 y3) (sheet_Decls.l0 (k + 1) y0 y1 y2 y3))
 | 0 => fun _ _ _ _ r h => by simp [sheet_Decls.l0] at h
 | k + 1 => by
  have ih0 := sheet_Decls.mono_l k
  ·intro y0 y1 y2 y3
   unfold sheet_Decls.l0
   repeat' first
   | (with_reducible exact ih0 _ _ _ _)
   | (with_reducible exact LeO.refl _)
   | (with_reducible exact LeO.none _)
   | (with_reducible refine LeO.ite ?_ ?_)
   | (with_reducible refine LeO.bind ?_ (fun _ => ?_))
   | exact ih0 _ _ _ _
   | exact LeO.none _
   | refine LeO.ite ?_ ?_
   | refine LeO.bind ?_ (fun _ => ?_)
theorem sheet_Decls.mono : ∀ a0 k, LeO (sheet_Decls.f k a0) (sheet_Decls.f (k + 1) a0) := by
 intro a0 k
 have ih0 := sheet_Decls.mono_l k
 unfold sheet_Decls.f
 repeat' first
   | (with_reducible exact ih0 _ _ _ _)
   | (with_reducible exact LeO.refl _)
   | (with_reducible exact LeO.none _)
   | (with_reducible refine LeO.ite ?_ ?_)
   | (with_reducible refine LeO.bind ?_ (fun _ => ?_))
   | exact ih0 _ _ _ _
   | exact LeO.none _
   | refine LeO.ite ?_ ?_
   | refine LeO.bind ?_ (fun _ => ?_)
set_option maxHeartbeats 8000000 in
set_option maxRecDepth 100000 in
theorem sheet_Decls.calls (k : Nat) (a0 : ByteArray) (r : List (S111)) (w : World) (h : sheet_Decls.f k a0 = some r) :
  Calls Tryz.prog 32 #[.string a0] w fun e w' => ∃ v0_ : Value, e = .returned (v0_) ∧ Kd.R k111 111 w' w.heap.size (fun _ => True) v0_ r ∧ Below w.heap.size w w' := by
 have HB := Aside0.mk (Below.refl w.heap.size w)
 have H : ((scan_Split.f a0 59).bind fun t173 => (sheet_Decls.l0 k ([] : List (S111)) t173 (t173.length : Int) 0)) = some r := h
 clear h
 replace H := Option.bind_eq_some_iff.mp H
 obtain ⟨t173, A20, H⟩ := H
 replace H : (sheet_Decls.l0 k ([] : List (S111)) t173 (t173.length : Int) 0) = some r := H
 have A2 := Aside0.mk A20
 clear A20
 have H' := Aside0.mk H
 clear H
 go_enter Tryz.func32, Tryz.ntmps32
 go_wp2_with (first | ((with_reducible refine gate_callee (f := 47) rfl ?_); refine goesL_ (some 7) rfl rfl Tryz.func47 (by kernel_rfl) rfl #[.string a0, .int .u8 59] rfl (by (try simp only [List.map_toArray, List.map_cons, List.map_nil]); first | rfl) ?_; (with_reducible refine (scan_Split.calls a0 59 t173 _ A2.out).mono ?_); rintro e w3 ⟨v174, rfl, ho0, hb⟩; refine ⟨_, rfl, ?_⟩; have n0_ := Aside0.mk (Kd.R_lower ho0 (below_size HB.out)); have n1_ := Aside0.mk (below_step HB.out hb); clear HB; have HO175 := n0_; have HB := n1_; clear n0_ n1_; (try clear hb); (try clear hb2); (try clear hk); (try clear hi); (try clear ho0); obtain ⟨Ao4, co4, eo4⟩ := Kd.R_slice HO175.out; subst eo4))
 go_loopg [3, 9] k (fun kq v3 v9 w' => ∃ (x3_1 : List (S111)) (x9_1 : Int), v9 = .int .i64 x9_1 ∧ Aside0 (sheet_Decls.l0 kq x3_1 t173 (t173.length : Int) x9_1 = some r) ∧ Aside0 (kq ≤ k) ∧ Aside0 (Kd.R k111 111 w' w.heap.size (fun _ => True) v3 x3_1) ∧ Aside0 (Kd.R Kd.string 9 w' w.heap.size (fun _ => True) (.slice Ao4 t173.length co4) t173) ∧ Aside0 (Below w.heap.size w w'))
 case atStart => exact ⟨(([] : List (S111))), (0), (by first | rfl), H', ⟨Nat.le_refl _⟩, ⟨by exact Kd.R_nil _ _ _ _ _⟩, ⟨by exact HO175.out⟩, ⟨by exact HB.out⟩⟩
 case round =>
  clear H'
  try clear p2
  try clear c3
  try clear c4
  obtain ⟨x3_1, x9_1, rfl, HA, HK1, HO_3, HO_7, HB⟩ := hrel
  cases gk with
  | zero => exact absurd HA.out (by simp [sheet_Decls.l0])
  | succ k1 =>
   have H := HA.out
   clear HA
   simp only [sheet_Decls.l0] at H
   by_cases c5 : x9_1 < (t173.length : Int)
   ·rw [if_pos c5] at H
    have c5b0 : decide (x9_1 < (t173.length : Int)) = true := decide_eq_true c5
    clear c5
    by_cases c6 : 0 ≤ x9_1
    ·rw [if_pos c6] at H
     have c6b0 : decide (0 ≤ x9_1) = true := decide_eq_true c6
     clear c6
     by_cases c7 : x9_1 < (t173.length : Int)
     ·rw [if_pos c7] at H
      have c7b0 : decide (x9_1 < (t173.length : Int)) = true := decide_eq_true c7
      clear c7
      replace H := Option.bind_eq_some_iff.mp H
      obtain ⟨t177, A80, H⟩ := H
      replace H : (if x3_1.length + t177.length < 4398046511104 then (sheet_Decls.l0 k1 (x3_1 ++ t177) t173 (t173.length : Int) (wrap64 (x9_1 + 1))) else (none)) = some r := H
      have A8 := Aside0.mk A80
      clear A80
      by_cases c9 : x3_1.length + t177.length < 4398046511104
      ·rw [if_pos c9] at H
       have LMc9 := Aside0.mk c9
       clear c9
       obtain ⟨y180, hy180⟩ : ∃ y_ : List (S111), y_ = (x3_1 ++ t177) := ⟨_, rfl⟩
       replace H : (sheet_Decls.l0 k1 y180 t173 (t173.length : Int) (wrap64 (x9_1 + 1))) = some r := by first | (rw [hy180]; with_reducible exact H)
       have Ny180 := Aside0.mk hy180
       clear hy180
       have H' := Aside0.mk H
       clear H
       have p176 : 0 ≤ (x9_1 : Int) := of_decide_eq_true (by first | (with_reducible assumption))
       have q176 : x9_1 < (t173.length : Int) := of_decide_eq_true (by first | (with_reducible assumption))
       obtain ⟨ad176, e176, hx176_0⟩ := Kd.at_string (Kd.R_reads' HO_7.out).2.2 x9_1 p176 q176
       cases e176
       replace p176 := eq_true p176
       replace q176 := eq_true q176
       go_wp2_with (first | ((with_reducible refine gate_callee (f := 68) rfl ?_); refine goesL_ (some 15) rfl rfl Tryz.func68 (by kernel_rfl) rfl #[.string (rdOf ByteArray.empty t173 x9_1)] rfl (by (try simp only [List.map_toArray, List.map_cons, List.map_nil]); first | rfl) ?_; (with_reducible refine (sheet_decls.calls (rdOf ByteArray.empty t173 x9_1) t177 _ A8.out).mono ?_); rintro e w10 ⟨v178, rfl, ho0, hb⟩; refine ⟨_, rfl, ?_⟩; have n0_ := Aside0.mk (Kd.R_elder' HO_3.out (Kd.R_base ho0) hb); have n1_ := Aside0.mk (Kd.R_below HO_7.out hb); have n2_ := Aside0.mk (Kd.R_lower (Kd.R_new' ho0 (Kd.R_lt HO_3.out)) (below_size HB.out)); have n3_ := Aside0.mk (below_step HB.out hb); clear HO_3; clear HO_7; clear HB; have HO_3 := n0_; have HO_7 := n1_; have HO179 := n2_; have HB := n3_; clear n0_ n1_ n2_ n3_; (try clear hb); (try clear hb2); (try clear hk); (try clear hi); (try clear ho0); obtain ⟨Ao12, co12, eo12⟩ := Kd.R_slice HO179.out; subst eo12) | ((with_reducible refine gate_builtin (b := .append) (xs := #[.tmp 13, .tmp 15]) rfl ?_); at_builtin; refine Kd.R_append_rows k111 (w0 := w) w.heap.size rfl (.tmp 13) (.tmp 15) 63 111 (.agg #[(.int .i64 0), (.int .i64 0), (.int .i64 0), (.bool false)]) 32 rfl Tryz.underlying63 info111 rfl (by decide) (by omega) u3 x3_1 t177 _ _ _ (fun k_ => some k_ ≠ (.slice Ao12 t177.length co12 : Value).ownBlock) (fun _ => False) rfl rfl ?aO ?aR (fun _ _ h => h) (fun _ h => h.elim) ?aF ?aB ?aS ?aL ?_; (case aR => repeat (first | exact (Kd.R_reads' HO179.out).2.2)); (case aB => exact HB.out); (case aF => exact (fun k_ hk => Kd.fresh' (Kd.R_lt HO179.out) k_ hk)); (case aO => exact (by exact Kd.R_mono HO_3.out (fun _ hk => hk.2))); (case aS => exact (below_size HB.out)); (case aL => have := LMc9.out; omega); intro v181 w11 ho hb hg hat; rw [← Ny180.out] at ho; have n0_ := Aside0.mk (Kd.R_over' HO_7.out (Kd.R_typed HO_3.out) (by decide) hg); have n1_ := Aside0.mk (Kd.R_after (ok := (fun _ => True)) HO179.out hg hat); have n2_ := Aside0.mk (hb); have n3_ := Aside0.mk (ho); clear HO_7; clear HO179; clear HB; clear HO_3; have HO_7 := n0_; have HO179 := n1_; have HB := n2_; have HO182 := n3_; clear n0_ n1_ n2_ n3_; clear ho hb hg hat))
       go_roundg k1
       case measure => have := HK1.out; omega
       case rel => exact ⟨(y180), (wrap64 (x9_1 + 1)), (by first | rfl), H', ⟨by have := HK1.out; omega⟩, ⟨by exact Kd.R_mono HO182.out (fun _ hk => trivial)⟩, ⟨by exact HO_7.out⟩, ⟨by exact HB.out⟩⟩
      ·rw [if_neg c9] at H
       exact absurd H (by simp)
     ·rw [if_neg c7] at H
      exact absurd H (by simp)
    ·rw [if_neg c6] at H
     exact absurd H (by simp)
   ·rw [if_neg c5] at H
    have c5b0 : decide (x9_1 < (t173.length : Int)) = false := decide_eq_false c5
    clear c5
    obtain rfl := Option.some.inj H
    go_wp2
    go_ret
    exact ⟨_, by first | rfl, by exact HO_3.out, by exact HB.out⟩

/-! ### scan_Trim: function 91 (by hand) -/
def scan_Trim.f (a0 : ByteArray) : Option ByteArray := if a0.size < 4294967281 then some (Go.Proofs.Scn.trimV a0) else none
theorem scan_Trim.calls (a0 : ByteArray) (r : ByteArray) (w : World) (h : scan_Trim.f a0 = some r) :
  Calls Tryz.prog 91 #[.string a0] w fun e w' => e = .returned (.string r) ∧ Below w.heap.size w w' := by
 unfold scan_Trim.f at h
 by_cases h1 : a0.size < 4294967281
 ·rw [if_pos h1] at h
  cases h
  exact Go.Proofs.Scn.trim_any a0 w h1
 ·rw [if_neg h1] at h; cases h


/-! ### strings_Cut: function 102 (by hand) -/
def strings_Cut.f (a0 : ByteArray) (a1 : ByteArray) : Option (ByteArray × ByteArray × Bool) := if a0.size < 4294967281 then (if a1.size = 1 then some (⟨(Lib.cut a0.data.toList a1.data.toList).1.toArray⟩, ⟨(Lib.cut a0.data.toList a1.data.toList).2.1.toArray⟩, (Lib.cut a0.data.toList a1.data.toList).2.2) else none) else none
theorem strings_Cut.calls (a0 : ByteArray) (a1 : ByteArray) (r1 : ByteArray) (r2 : ByteArray) (r3 : Bool) (w : World) (h : strings_Cut.f a0 a1 = some (r1, r2, r3)) :
  Calls Tryz.prog 102 #[.string a0, .string a1] w fun e w' => e = .returned (.tuple #[.string r1, .string r2, .bool r3]) ∧ Drawn0 w w' := by
 unfold strings_Cut.f at h
 by_cases h1 : a0.size < 4294967281
 ·rw [if_pos h1] at h
  by_cases h2 : a1.size = 1
  ·rw [if_pos h2] at h
   obtain ⟨c, rfl⟩ := Lib.one_byte a1 h2
   cases h
   exact (Go.Proofs.ShX.xCut_one Tryz.lays145 a0 c w h1).mono fun e w' ⟨he, n, hn⟩ => ⟨he, ⟨⟨n, hn⟩⟩⟩
  ·rw [if_neg h2] at h; cases h
 ·rw [if_neg h1] at h; cases h


end Go.Proofs.YtolfpgccebdlpaaGreatDoor.HT
namespace Go.Proofs.YtolfpgccebdlpaaGreatDoor.HT
open Go.RowKit Go.Proofs.YtolfpgccebdlpaaGreatDoorW.PrintWords Go.Proofs.YtolfpgccebdlpaaGreatDoorW.PrintLast Go.Proofs.YtolfpgccebdlpaaGreatDoorW.PrintMore
attribute [local go_sem] max2_int min2_int max_two min_two max_three min_three max_four min_four   -- for this text's walks alone
set_option linter.unusedVariables false
set_option linter.unusedSimpArgs false

theorem eqA109 (d : Nat) (w : World) (x0 y0 : Int) (x1 y1 : Int) :
    (Op.equalIn (d + 2) 109 (.agg #[.int .i64 x0, .int .i64 x1]) (.agg #[.int .i64 y0, .int .i64 y1])).run Tryz.prog w = .ok (x0 == y0 && (x1 == y1)) w := by
  refine eqA_of Tryz.underlying109 (by kernel_rfl) ?_
  refine eqf_cons (by rfl) (by go_simp; rfl) (by go_simp; rfl) (by go_simp) ?_
  exact eqf_last (by rfl) (by go_simp; rfl) (by go_simp; rfl) (by go_simp)
theorem eqA123 (d : Nat) (w : World) (x0 y0 : Int) (x1 y1 : Int) (x2 y2 : Int) (x3 y3 : Bool) :
    (Op.equalIn (d + 3) 123 (.agg #[.int .i64 x0, .int .i64 x1, .int .i64 x2, .bool x3]) (.agg #[.int .i64 y0, .int .i64 y1, .int .i64 y2, .bool y3])).run Tryz.prog w = .ok (x0 == y0 && ((x1 == y1 && (x2 == y2)) && (x3 == y3))) w := by
  refine eqA_of Tryz.underlying123 (by kernel_rfl) ?_
  refine eqf_cons (by rfl) (by go_simp; rfl) (by go_simp; rfl) (by go_simp) ?_
  refine eqf_cons (by rfl) (by go_simp) (by go_simp) (eqA109 (d + 0) w _ _ _ _) ?_
  exact eqf_last (by rfl) (by go_simp; rfl) (by go_simp; rfl) (by go_simp)
end Go.Proofs.YtolfpgccebdlpaaGreatDoor.HT
