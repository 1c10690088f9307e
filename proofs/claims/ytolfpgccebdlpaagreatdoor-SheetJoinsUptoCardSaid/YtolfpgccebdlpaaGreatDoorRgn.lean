/- Steps of a drawn region, each by its number alone: what a step asks is proved by the step's own lemma; no condition beside those that each theorem states. -/
import Derived.Test.YtolfpgccebdlpaaGreatDoorWLast
import Derived.Test.YtolfpgccebdlpaaGreatDoorWWords
import Derived.Shelf.Strings.Builder1
import Derived.Shelf.Strings.Builder2
import Derived.Shelf.Strings.Trim
import Derived.Shelf.Small.Utf8
import Derived.Shelf.Small.Strs
import Derived.Shelf.Small.Wraps
import Derived.Shelf.Strings.BuilderF
import Derived.Shelf.Strings.BuilderK
import Derived.Shelf.Strconv.Itoa0
import Derived.Shelf.Strconv.Itoa1
import Derived.Shelf.LaysM
import Derived.Shelf.Strconv.Itoa2
import Derived.Shelf.Strconv.Itoa3
import Derived.Shelf.Strconv.Itoa4
import Derived.Shelf.Strconv.ParseIntEmpty
import Derived.Shelf.Strconv.Clone
import Derived.Shelf.Strconv.SyntaxError
import Derived.Shelf.LaysC
import Derived.Shelf.Strconv.ToError
import Derived.Shelf.Strconv.Lower
import Derived.Shelf.Strconv.ParseUint10
import Derived.Shelf.Strconv.ParseUint10Empty
import Derived.Shelf.Strconv.ParseUint10Any
import Derived.Shelf.Strconv.ParseInt10
import Derived.Shelf.Strconv.RangeError
import Derived.Shelf.Strconv.ToErrorRange
import Derived.Shelf.Strconv.ParseUintEmpty
import Derived.Shelf.Strconv.ParseUint10b64
import Derived.Shelf.Strconv.ParseUint10b32
import Derived.Shelf.Strconv.ParseUint10b16
import Derived.Shelf.Strconv.ParseUint10b8
import Derived.Shelf.Strconv.ParseUint10At
import Derived.Shelf.Strconv.ParseInt10At64
import Derived.Shelf.Strconv.ParseInt10At32
import Derived.Shelf.Strconv.ParseInt10At16
import Derived.Shelf.Strconv.ParseInt10At8
import Derived.Shelf.Strconv.ParseInt10All
import Derived.Shelf.Strconv.ParseIntPublic10
import Derived.Shelf.Strconv.ErrVarParseInt
import Derived.Shelf.Strings.Search1
import Derived.Shelf.Strings.Search2
import Derived.Shelf.Strings.Search3
import Derived.Shelf.Strings.Cut
import Derived.Shelf.Strings.Count
import Derived.Shelf.Strings.Shaped
import Derived.Shelf.Strings.Prefix
import Derived.Shelf.Strings.Split
import Derived.Shelf.Strings.Replace
import Derived.Shelf.Strings.SplitShaped
import Derived.Shelf.Strings.Runes
import Derived.Shelf.Strings.IndexAny
import Derived.Shelf.Strings.AsciiSet
import Derived.Shelf.Strings.IndexAnyAll
import Derived.Shelf.Unicode.DecodeSlow
import Derived.Shelf.Slices.Turned
import Derived.Test.YtolfpgccebdlpaaGreatDoorProg
import Derived.Shelf.Strings.SlTrimAscii
import Derived.Shelf.RegionOpenPlain
import Derived.Laws.RangeAny
import Derived.BigQuiet
import Derived.IntWalk
import Derived.Lib.Hide
import Derived.Lib.OthersKept
set_option linter.unusedVariables false
namespace Go.Proofs.Rgn
open Go.RowKit Go.Proofs.YtolfpgccebdlpaaGreatDoorW.PrintWords Go.Proofs.YtolfpgccebdlpaaGreatDoorW.PrintLast
/-- n places, the first k of them done -/
def mB (n k : Nat) : Array Bool := (List.replicate k true ++ List.replicate (n - k) false).toArray
attribute [local go_sem] Act.put List.setIfInBounds_toArray List.set_cons_zero List.set_cons_succ
variable {P : Program} {md : Region.Mode} {ops : Array Oper} {T : Bool × List (List Nat × List Nat)} {ds : List Nat} {Q : Exit → Act → World → Prop} {S : World → Prop} {fuel : Nat} {l : Array Bool} {a a' : Act} {w : World} {oi : Oper} {v : Value}
/-- an operation that is off -/
theorem off_ (hT : rtab md ops = T) (i : Nat) (l' : Array Bool) (hi : ops[i]? = some oi := by rfl) (hc : anyT T l.toList l'.toList i = true := by kernel_rfl) (hw : Region.wanted oi (yielded ops a.tmps) = false := by rfl) (hQ : ∀ c a w, Q (.panic c) (a.put oi.dst undef) w → Q (.panic c) a w := by exact fun _ _ _ h => h)
    (ha : a.put oi.dst undef = a' := by go_simp; rfl) (h : wpAnyLast P md ops Q S ds fuel l' a' w) : wpAnyLast P md ops Q S ds (fuel + 1) l a w :=
  pure_ (v := undef) l' hi rfl (any_of hT hc) hQ (Or.inr ⟨hw, rfl⟩) ha h
/-- an operation that yields in every world -/
theorem on_ (hT : rtab md ops = T) (i : Nat) (l' : Array Bool) (hi : ops[i]? = some oi := by rfl) (hc : anyT T l.toList l'.toList i = true := by kernel_rfl) (hw : Region.wanted oi (yielded ops a.tmps) = true := by rfl)
    (hy : ∀ w, (execOp a.eval oi).run P w = .ok (.value v) w := by intro w'; go_simp; try with_reducible rfl) (hQ : ∀ c a w, Q (.panic c) (a.put oi.dst v) w → Q (.panic c) a w := by exact fun _ _ _ h => h)
    (ha : a.put oi.dst v = a' := by go_simp; rfl) (h : wpAnyLast P md ops Q S ds fuel l' a' w) : wpAnyLast P md ops Q S ds (fuel + 1) l a w :=
  pure_ l' hi rfl (any_of hT hc) hQ (Or.inl ⟨hw, hy⟩) ha h
/-- what stands is told as it is -/
theorem as_ (h : wpAnyLast P md ops Q S ds fuel l a' w) (ha : a = a' := by go_simp; rfl) : wpAnyLast P md ops Q S ds fuel l a w := norm_ ha h
end Go.Proofs.Rgn
namespace Go.Proofs
open Go.Shelf
def Tryz.lays170_ren : Go.Shelf.Ren := ⟨fun | 170 => 100 | n => n, fun | 70 => 96 | 3 => 3 | 0 => 0 | 72 => 99 | 37 => 97 | 5 => 5 | 9 => 9 | 20 => 20 | n => n, fun | n => n⟩
theorem Tryz.lays170 : Go.Proofs.Lays.n170 Tryz.prog Tryz.lays170_ren := {
  mixed := by kernel_rfl
  f170 := Tryz.func100.trans (congrArg some (by kernel_rfl))
  t0 := Tryz.underlying0
  a0 := Tryz.isAgg0
  z0 := Tryz.sizeOf0
  v0 := Tryz.zeroValue0
  t3 := Tryz.underlying3
  a3 := Tryz.isAgg3
  z3 := Tryz.sizeOf3
  v3 := Tryz.zeroValue3
  t37 := Tryz.underlying97
  a37 := Tryz.isAgg97
  z37 := Tryz.sizeOf97
  v37 := Tryz.zeroValue97
  t70 := Tryz.underlying96
  a70 := Tryz.isAgg96
  z70 := Tryz.sizeOf96
  v70 := Tryz.zeroValue96
  t72 := Tryz.underlying99
  a72 := Tryz.isAgg99
  z72 := Tryz.sizeOf99
  v72 := Tryz.zeroValue99 }
open Go.RowKit in
theorem Tryz.Builder_Len (B b : Nat) (bs : List Value) (w : World) (h : Lib.IsBuilder 99 5 B b bs w) :
    Calls Tryz.prog 100 #[.pointer (some ⟨b, 0, none⟩)] w fun e w' => e = .returned (.int .i64 bs.length) ∧ w' = w := Any.Builder_Len Tryz.lays170 B b bs w h
def Tryz.lays167_ren : Go.Shelf.Ren := ⟨fun | 167 => 103 | 240 => 99 | 276 => 137 | n => n, fun | 70 => 96 | 5 => 5 | 75 => 101 | 0 => 0 | 72 => 99 | 37 => 97 | 4 => 4 | 164 => 182 | 80 => 104 | 9 => 9 | 20 => 20 | n => n, fun | n => n⟩
theorem Tryz.lays167 : Go.Proofs.Lays.n167 Tryz.prog Tryz.lays167_ren := {
  mixed := by kernel_rfl
  f167 := Tryz.func103.trans (congrArg some (by kernel_rfl))
  f240 := Tryz.func99.trans (congrArg some (by kernel_rfl))
  f276 := Tryz.func137.trans (congrArg some (by kernel_rfl))
  t0 := Tryz.underlying0
  a0 := Tryz.isAgg0
  z0 := Tryz.sizeOf0
  v0 := Tryz.zeroValue0
  t4 := Tryz.underlying4
  a4 := Tryz.isAgg4
  z4 := Tryz.sizeOf4
  v4 := Tryz.zeroValue4
  t5 := Tryz.underlying5
  a5 := Tryz.isAgg5
  z5 := Tryz.sizeOf5
  v5 := Tryz.zeroValue5
  t9 := Tryz.underlying9
  a9 := Tryz.isAgg9
  z9 := Tryz.sizeOf9
  v9 := Tryz.zeroValue9
  t20 := Tryz.underlying20
  a20 := Tryz.isAgg20
  z20 := Tryz.sizeOf20
  v20 := Tryz.zeroValue20
  t37 := Tryz.underlying97
  a37 := Tryz.isAgg97
  z37 := Tryz.sizeOf97
  v37 := Tryz.zeroValue97
  t70 := Tryz.underlying96
  a70 := Tryz.isAgg96
  z70 := Tryz.sizeOf96
  v70 := Tryz.zeroValue96
  t72 := Tryz.underlying99
  a72 := Tryz.isAgg99
  z72 := Tryz.sizeOf99
  v72 := Tryz.zeroValue99
  t75 := Tryz.underlying101
  a75 := Tryz.isAgg101
  z75 := Tryz.sizeOf101
  v75 := Tryz.zeroValue101
  t164 := Tryz.underlying182
  a164 := Tryz.isAgg182
  z164 := Tryz.sizeOf182
  v164 := Tryz.zeroValue182 }
theorem Tryz.Builder_Extra_167 : Builder.Extra Tryz.prog Tryz.lays167_ren := {
  sizeBuilder := by kernel_rfl
  liesBuilder := by kernel_rfl
  t5 := Tryz.underlying5
  a5 := Tryz.isAgg5
  z5 := Tryz.sizeOf5
  v5 := Tryz.zeroValue5
  infoByte := by kernel_rfl
  cellsByte := by kernel_rfl
  sizeByte := by kernel_rfl
  neB5 := by decide }
open Go.RowKit in
theorem Tryz.Builder_WriteByte (B b : Nat) (bs : List Value) (c : Int) (w : World) (h : Lib.IsBuilder 99 5 B b bs w) (hlen : bs.length + 1 ≤ 140737488355328) (hBw : B ≤ w.heap.size) :
    Calls Tryz.prog 103 #[.pointer (some ⟨b, 0, none⟩), .int .u8 c] w fun e w' => e = .returned .nilIface ∧ (Lib.BuilderAt 99 5 B b (.pointer (some ⟨b, 0, none⟩)) (bs ++ [.int .u8 c]) w' ∧ Below B w w') := Any.Builder_WriteByte Tryz.lays167 Tryz.Builder_Extra_167 B b bs c w h hlen hBw
def Tryz.lays166_ren : Go.Shelf.Ren := ⟨fun | 166 => 56 | 240 => 99 | 276 => 137 | n => n, fun | 70 => 96 | 9 => 9 | 3 => 3 | 75 => 101 | 0 => 0 | 72 => 99 | 37 => 97 | 4 => 4 | 164 => 182 | 80 => 104 | 5 => 5 | 20 => 20 | n => n, fun | n => n⟩
theorem Tryz.lays166 : Go.Proofs.Lays.n166 Tryz.prog Tryz.lays166_ren := {
  mixed := by kernel_rfl
  f166 := Tryz.func56.trans (congrArg some (by kernel_rfl))
  f240 := Tryz.func99.trans (congrArg some (by kernel_rfl))
  f276 := Tryz.func137.trans (congrArg some (by kernel_rfl))
  t0 := Tryz.underlying0
  a0 := Tryz.isAgg0
  z0 := Tryz.sizeOf0
  v0 := Tryz.zeroValue0
  t3 := Tryz.underlying3
  a3 := Tryz.isAgg3
  z3 := Tryz.sizeOf3
  v3 := Tryz.zeroValue3
  t4 := Tryz.underlying4
  a4 := Tryz.isAgg4
  z4 := Tryz.sizeOf4
  v4 := Tryz.zeroValue4
  t9 := Tryz.underlying9
  a9 := Tryz.isAgg9
  z9 := Tryz.sizeOf9
  v9 := Tryz.zeroValue9
  t20 := Tryz.underlying20
  a20 := Tryz.isAgg20
  z20 := Tryz.sizeOf20
  v20 := Tryz.zeroValue20
  t37 := Tryz.underlying97
  a37 := Tryz.isAgg97
  z37 := Tryz.sizeOf97
  v37 := Tryz.zeroValue97
  t70 := Tryz.underlying96
  a70 := Tryz.isAgg96
  z70 := Tryz.sizeOf96
  v70 := Tryz.zeroValue96
  t72 := Tryz.underlying99
  a72 := Tryz.isAgg99
  z72 := Tryz.sizeOf99
  v72 := Tryz.zeroValue99
  t75 := Tryz.underlying101
  a75 := Tryz.isAgg101
  z75 := Tryz.sizeOf101
  v75 := Tryz.zeroValue101
  t164 := Tryz.underlying182
  a164 := Tryz.isAgg182
  z164 := Tryz.sizeOf182
  v164 := Tryz.zeroValue182 }
theorem Tryz.Builder_Extra_166 : Builder.Extra Tryz.prog Tryz.lays166_ren := {
  sizeBuilder := by kernel_rfl
  liesBuilder := by kernel_rfl
  t5 := Tryz.underlying5
  a5 := Tryz.isAgg5
  z5 := Tryz.sizeOf5
  v5 := Tryz.zeroValue5
  infoByte := by kernel_rfl
  cellsByte := by kernel_rfl
  sizeByte := by kernel_rfl
  neB5 := by decide }
open Go.RowKit in
theorem Tryz.Builder_WriteString (B b : Nat) (bs : List Value) (s : ByteArray) (w : World) (h : Lib.IsBuilder 99 5 B b bs w) (hlen : bs.length + s.size ≤ 140737488355328) (hBw : B ≤ w.heap.size) :
    Calls Tryz.prog 56 #[.pointer (some ⟨b, 0, none⟩), .string s] w fun e w' => e = .returned (.tuple #[.int .i64 s.size, .nilIface]) ∧ (Lib.BuilderAt 99 5 B b (.pointer (some ⟨b, 0, none⟩)) (bs ++ Lib.strCells s) w' ∧ Below B w w') := Any.Builder_WriteString Tryz.lays166 Tryz.Builder_Extra_166 B b bs s w h hlen hBw
def Tryz.lays169_ren : Go.Shelf.Ren := ⟨fun | 169 => 58 | n => n, fun | 70 => 96 | 9 => 9 | 0 => 0 | 72 => 99 | 37 => 97 | 127 => 145 | 3 => 3 | 5 => 5 | 20 => 20 | n => n, fun | n => n⟩
theorem Tryz.lays169 : Go.Proofs.Lays.n169 Tryz.prog Tryz.lays169_ren := {
  mixed := by kernel_rfl
  f169 := Tryz.func58.trans (congrArg some (by kernel_rfl))
  t0 := Tryz.underlying0
  a0 := Tryz.isAgg0
  z0 := Tryz.sizeOf0
  v0 := Tryz.zeroValue0
  t3 := Tryz.underlying3
  a3 := Tryz.isAgg3
  z3 := Tryz.sizeOf3
  v3 := Tryz.zeroValue3
  t9 := Tryz.underlying9
  a9 := Tryz.isAgg9
  z9 := Tryz.sizeOf9
  v9 := Tryz.zeroValue9
  t37 := Tryz.underlying97
  a37 := Tryz.isAgg97
  z37 := Tryz.sizeOf97
  v37 := Tryz.zeroValue97
  t70 := Tryz.underlying96
  a70 := Tryz.isAgg96
  z70 := Tryz.sizeOf96
  v70 := Tryz.zeroValue96
  t72 := Tryz.underlying99
  a72 := Tryz.isAgg99
  z72 := Tryz.sizeOf99
  v72 := Tryz.zeroValue99
  t127 := Tryz.underlying145
  a127 := Tryz.isAgg145
  z127 := Tryz.sizeOf145
  v127 := Tryz.zeroValue145 }
theorem Tryz.Builder_Extra_169 : Builder.Extra Tryz.prog Tryz.lays169_ren := {
  sizeBuilder := by kernel_rfl
  liesBuilder := by kernel_rfl
  t5 := Tryz.underlying5
  a5 := Tryz.isAgg5
  z5 := Tryz.sizeOf5
  v5 := Tryz.zeroValue5
  infoByte := by kernel_rfl
  cellsByte := by kernel_rfl
  sizeByte := by kernel_rfl
  neB5 := by decide }
open Go.RowKit in
theorem Tryz.Builder_String_any (B b : Nat) (l : List UInt8) (w : World) (h : Lib.IsBuilder 99 5 B b (Lib.byteCells l) w) (hBw : B ≤ w.heap.size) :
    Calls Tryz.prog 58 #[.pointer (some ⟨b, 0, none⟩)] w fun e w' => e = .returned (.string ⟨l.toArray⟩) ∧ Below B w w' := Any.Builder_String_any Tryz.lays169 Tryz.Builder_Extra_169 B b l w h hBw
def Tryz.lays161_ren : Go.Shelf.Ren := ⟨fun | 161 => 125 | 231 => 153 | 227 => 140 | 233 => 154 | 235 => 155 | 228 => 141 | 197 => 129 | 151 => 190 | 260 => 160 | 152 => 138 | 137 => 87 | 119 => 169 | 224 => 170 | 225 => 171 | 217 => 130 | 266 => 161 | n => n, fun | 9 => 9 | 4 => 4 | 3 => 3 | 5 => 5 | 117 => 187 | 116 => 186 | 0 => 0 | 124 => 197 | 105 => 174 | 21 => 21 | 119 => 220 | 46 => 201 | 139 => 223 | 138 => 222 | 20 => 20 | n => n, fun | 3 => 1 | 4 => 2 | n => n⟩
theorem Tryz.lays161 : Go.Proofs.Lays.n161 Tryz.prog Tryz.lays161_ren := {
  mixed := by kernel_rfl
  f119 := Tryz.func169.trans (congrArg some (by kernel_rfl))
  f137 := Tryz.func87.trans (congrArg some (by kernel_rfl))
  f151 := Tryz.func190.trans (congrArg some (by kernel_rfl))
  f152 := Tryz.func138.trans (congrArg some (by kernel_rfl))
  f161 := Tryz.func125.trans (congrArg some (by kernel_rfl))
  f197 := Tryz.func129.trans (congrArg some (by kernel_rfl))
  f217 := Tryz.func130.trans (congrArg some (by kernel_rfl))
  f224 := Tryz.func170.trans (congrArg some (by kernel_rfl))
  f225 := Tryz.func171.trans (congrArg some (by kernel_rfl))
  f227 := Tryz.func140.trans (congrArg some (by kernel_rfl))
  f228 := Tryz.func141.trans (congrArg some (by kernel_rfl))
  f231 := Tryz.func153.trans (congrArg some (by kernel_rfl))
  f233 := Tryz.func154.trans (congrArg some (by kernel_rfl))
  f235 := Tryz.func155.trans (congrArg some (by kernel_rfl))
  f260 := Tryz.func160.trans (congrArg some (by kernel_rfl))
  f266 := Tryz.func161.trans (congrArg some (by kernel_rfl))
  t0 := Tryz.underlying0
  a0 := Tryz.isAgg0
  z0 := Tryz.sizeOf0
  v0 := Tryz.zeroValue0
  t3 := Tryz.underlying3
  a3 := Tryz.isAgg3
  z3 := Tryz.sizeOf3
  v3 := Tryz.zeroValue3
  t4 := Tryz.underlying4
  a4 := Tryz.isAgg4
  z4 := Tryz.sizeOf4
  v4 := Tryz.zeroValue4
  t5 := Tryz.underlying5
  a5 := Tryz.isAgg5
  z5 := Tryz.sizeOf5
  v5 := Tryz.zeroValue5
  t9 := Tryz.underlying9
  a9 := Tryz.isAgg9
  z9 := Tryz.sizeOf9
  v9 := Tryz.zeroValue9
  t21 := Tryz.underlying21
  a21 := Tryz.isAgg21
  z21 := Tryz.sizeOf21
  v21 := Tryz.zeroValue21
  t46 := Tryz.underlying201
  a46 := Tryz.isAgg201
  z46 := Tryz.sizeOf201
  v46 := Tryz.zeroValue201
  t105 := Tryz.underlying174
  a105 := Tryz.isAgg174
  z105 := Tryz.sizeOf174
  v105 := Tryz.zeroValue174
  t116 := Tryz.underlying186
  a116 := Tryz.isAgg186
  z116 := Tryz.sizeOf186
  t117 := Tryz.underlying187
  a117 := Tryz.isAgg187
  z117 := Tryz.sizeOf187
  v117 := Tryz.zeroValue187
  t119 := Tryz.underlying220
  a119 := Tryz.isAgg220
  z119 := Tryz.sizeOf220
  t124 := Tryz.underlying197
  a124 := Tryz.isAgg197
  z124 := Tryz.sizeOf197
  v124 := Tryz.zeroValue197
  t138 := Tryz.underlying222
  a138 := Tryz.isAgg222
  z138 := Tryz.sizeOf222
  v138 := Tryz.zeroValue222
  t139 := Tryz.underlying223
  a139 := Tryz.isAgg223
  z139 := Tryz.sizeOf223
  v139 := Tryz.zeroValue223
  g3 := by kernel_rfl
  g4 := by kernel_rfl }
def Tryz.lays162_ren : Go.Shelf.Ren := ⟨fun | 162 => 151 | 232 => 163 | 227 => 140 | 234 => 164 | 236 => 165 | 228 => 141 | 271 => 193 | 151 => 190 | 120 => 205 | 197 => 129 | 152 => 138 | 260 => 160 | 137 => 87 | 119 => 169 | 224 => 170 | 225 => 171 | 217 => 130 | 266 => 161 | n => n, fun | 9 => 9 | 4 => 4 | 3 => 3 | 5 => 5 | 117 => 187 | 116 => 186 | 0 => 0 | 124 => 197 | 21 => 21 | 105 => 174 | 46 => 201 | 119 => 220 | 139 => 223 | 138 => 222 | 20 => 20 | n => n, fun | 3 => 1 | 4 => 2 | n => n⟩
theorem Tryz.lays162 : Go.Proofs.Lays.n162 Tryz.prog Tryz.lays162_ren := {
  mixed := by kernel_rfl
  f119 := Tryz.func169.trans (congrArg some (by kernel_rfl))
  f120 := Tryz.func205.trans (congrArg some (by kernel_rfl))
  f137 := Tryz.func87.trans (congrArg some (by kernel_rfl))
  f151 := Tryz.func190.trans (congrArg some (by kernel_rfl))
  f152 := Tryz.func138.trans (congrArg some (by kernel_rfl))
  f162 := Tryz.func151.trans (congrArg some (by kernel_rfl))
  f197 := Tryz.func129.trans (congrArg some (by kernel_rfl))
  f217 := Tryz.func130.trans (congrArg some (by kernel_rfl))
  f224 := Tryz.func170.trans (congrArg some (by kernel_rfl))
  f225 := Tryz.func171.trans (congrArg some (by kernel_rfl))
  f227 := Tryz.func140.trans (congrArg some (by kernel_rfl))
  f228 := Tryz.func141.trans (congrArg some (by kernel_rfl))
  f232 := Tryz.func163.trans (congrArg some (by kernel_rfl))
  f234 := Tryz.func164.trans (congrArg some (by kernel_rfl))
  f236 := Tryz.func165.trans (congrArg some (by kernel_rfl))
  f260 := Tryz.func160.trans (congrArg some (by kernel_rfl))
  f266 := Tryz.func161.trans (congrArg some (by kernel_rfl))
  f271 := Tryz.func193.trans (congrArg some (by kernel_rfl))
  t0 := Tryz.underlying0
  a0 := Tryz.isAgg0
  z0 := Tryz.sizeOf0
  v0 := Tryz.zeroValue0
  t3 := Tryz.underlying3
  a3 := Tryz.isAgg3
  z3 := Tryz.sizeOf3
  v3 := Tryz.zeroValue3
  t4 := Tryz.underlying4
  a4 := Tryz.isAgg4
  z4 := Tryz.sizeOf4
  v4 := Tryz.zeroValue4
  t5 := Tryz.underlying5
  a5 := Tryz.isAgg5
  z5 := Tryz.sizeOf5
  v5 := Tryz.zeroValue5
  t9 := Tryz.underlying9
  a9 := Tryz.isAgg9
  z9 := Tryz.sizeOf9
  v9 := Tryz.zeroValue9
  t21 := Tryz.underlying21
  a21 := Tryz.isAgg21
  z21 := Tryz.sizeOf21
  v21 := Tryz.zeroValue21
  t46 := Tryz.underlying201
  a46 := Tryz.isAgg201
  z46 := Tryz.sizeOf201
  v46 := Tryz.zeroValue201
  t105 := Tryz.underlying174
  a105 := Tryz.isAgg174
  z105 := Tryz.sizeOf174
  v105 := Tryz.zeroValue174
  t116 := Tryz.underlying186
  a116 := Tryz.isAgg186
  z116 := Tryz.sizeOf186
  t117 := Tryz.underlying187
  a117 := Tryz.isAgg187
  z117 := Tryz.sizeOf187
  v117 := Tryz.zeroValue187
  t119 := Tryz.underlying220
  a119 := Tryz.isAgg220
  z119 := Tryz.sizeOf220
  t124 := Tryz.underlying197
  a124 := Tryz.isAgg197
  z124 := Tryz.sizeOf197
  v124 := Tryz.zeroValue197
  t138 := Tryz.underlying222
  a138 := Tryz.isAgg222
  z138 := Tryz.sizeOf222
  v138 := Tryz.zeroValue222
  t139 := Tryz.underlying223
  a139 := Tryz.isAgg223
  z139 := Tryz.sizeOf223
  v139 := Tryz.zeroValue223
  g3 := by kernel_rfl
  g4 := by kernel_rfl }
open Go.RowKit in
theorem Tryz.strings_TrimRight_one (s : ByteArray) (c : UInt8) (hc : c.toNat < 128) (w : World) (hs : s.size ≤ 9223372036854775807) :
    Calls Tryz.prog 151 #[.string s, .string ⟨#[c]⟩] w fun e w' => e = .returned (.string ⟨(Lib.trimRightB s.data.toList c).toArray⟩) ∧ w' = w := Any.strings_TrimRight_one Tryz.lays162 s c hc w hs
def Tryz.lays160_ren : Go.Shelf.Ren := ⟨fun | 160 => 132 | 232 => 163 | 231 => 153 | 227 => 140 | 234 => 164 | 233 => 154 | 236 => 165 | 235 => 155 | 228 => 141 | 271 => 193 | 151 => 190 | 197 => 129 | 120 => 205 | 152 => 138 | 260 => 160 | 137 => 87 | 119 => 169 | 224 => 170 | 225 => 171 | 217 => 130 | 266 => 161 | n => n, fun | 9 => 9 | 4 => 4 | 3 => 3 | 5 => 5 | 117 => 187 | 116 => 186 | 0 => 0 | 124 => 197 | 21 => 21 | 105 => 174 | 46 => 201 | 119 => 220 | 139 => 223 | 138 => 222 | 20 => 20 | n => n, fun | 3 => 1 | 4 => 2 | n => n⟩
theorem Tryz.lays160 : Go.Proofs.Lays.n160 Tryz.prog Tryz.lays160_ren := {
  mixed := by kernel_rfl
  f119 := Tryz.func169.trans (congrArg some (by kernel_rfl))
  f120 := Tryz.func205.trans (congrArg some (by kernel_rfl))
  f137 := Tryz.func87.trans (congrArg some (by kernel_rfl))
  f151 := Tryz.func190.trans (congrArg some (by kernel_rfl))
  f152 := Tryz.func138.trans (congrArg some (by kernel_rfl))
  f160 := Tryz.func132.trans (congrArg some (by kernel_rfl))
  f197 := Tryz.func129.trans (congrArg some (by kernel_rfl))
  f217 := Tryz.func130.trans (congrArg some (by kernel_rfl))
  f224 := Tryz.func170.trans (congrArg some (by kernel_rfl))
  f225 := Tryz.func171.trans (congrArg some (by kernel_rfl))
  f227 := Tryz.func140.trans (congrArg some (by kernel_rfl))
  f228 := Tryz.func141.trans (congrArg some (by kernel_rfl))
  f231 := Tryz.func153.trans (congrArg some (by kernel_rfl))
  f232 := Tryz.func163.trans (congrArg some (by kernel_rfl))
  f233 := Tryz.func154.trans (congrArg some (by kernel_rfl))
  f234 := Tryz.func164.trans (congrArg some (by kernel_rfl))
  f235 := Tryz.func155.trans (congrArg some (by kernel_rfl))
  f236 := Tryz.func165.trans (congrArg some (by kernel_rfl))
  f260 := Tryz.func160.trans (congrArg some (by kernel_rfl))
  f266 := Tryz.func161.trans (congrArg some (by kernel_rfl))
  f271 := Tryz.func193.trans (congrArg some (by kernel_rfl))
  t0 := Tryz.underlying0
  a0 := Tryz.isAgg0
  z0 := Tryz.sizeOf0
  v0 := Tryz.zeroValue0
  t3 := Tryz.underlying3
  a3 := Tryz.isAgg3
  z3 := Tryz.sizeOf3
  v3 := Tryz.zeroValue3
  t4 := Tryz.underlying4
  a4 := Tryz.isAgg4
  z4 := Tryz.sizeOf4
  v4 := Tryz.zeroValue4
  t5 := Tryz.underlying5
  a5 := Tryz.isAgg5
  z5 := Tryz.sizeOf5
  v5 := Tryz.zeroValue5
  t9 := Tryz.underlying9
  a9 := Tryz.isAgg9
  z9 := Tryz.sizeOf9
  v9 := Tryz.zeroValue9
  t21 := Tryz.underlying21
  a21 := Tryz.isAgg21
  z21 := Tryz.sizeOf21
  v21 := Tryz.zeroValue21
  t46 := Tryz.underlying201
  a46 := Tryz.isAgg201
  z46 := Tryz.sizeOf201
  v46 := Tryz.zeroValue201
  t105 := Tryz.underlying174
  a105 := Tryz.isAgg174
  z105 := Tryz.sizeOf174
  v105 := Tryz.zeroValue174
  t116 := Tryz.underlying186
  a116 := Tryz.isAgg186
  z116 := Tryz.sizeOf186
  t117 := Tryz.underlying187
  a117 := Tryz.isAgg187
  z117 := Tryz.sizeOf187
  v117 := Tryz.zeroValue187
  t119 := Tryz.underlying220
  a119 := Tryz.isAgg220
  z119 := Tryz.sizeOf220
  t124 := Tryz.underlying197
  a124 := Tryz.isAgg197
  z124 := Tryz.sizeOf197
  v124 := Tryz.zeroValue197
  t138 := Tryz.underlying222
  a138 := Tryz.isAgg222
  z138 := Tryz.sizeOf222
  v138 := Tryz.zeroValue222
  t139 := Tryz.underlying223
  a139 := Tryz.isAgg223
  z139 := Tryz.sizeOf223
  v139 := Tryz.zeroValue223
  g3 := by kernel_rfl
  g4 := by kernel_rfl }
def Tryz.lays119_ren : Go.Shelf.Ren := ⟨fun | 119 => 169 | n => n, fun | 21 => 21 | 4 => 4 | 9 => 9 | 20 => 20 | n => n, fun | n => n⟩
theorem Tryz.lays119 : Go.Proofs.Lays.n119 Tryz.prog Tryz.lays119_ren := {
  mixed := by kernel_rfl
  f119 := Tryz.func169.trans (congrArg some (by kernel_rfl))
  t4 := Tryz.underlying4
  a4 := Tryz.isAgg4
  z4 := Tryz.sizeOf4
  v4 := Tryz.zeroValue4
  t21 := Tryz.underlying21
  a21 := Tryz.isAgg21
  z21 := Tryz.sizeOf21
  v21 := Tryz.zeroValue21 }
theorem Tryz.utf8_ValidRune (r : Int) (w : World) :
    Calls Tryz.prog 169 #[.int .i32 r] w fun e w' => e = .returned (.bool (Lib.validRune r)) ∧ w' = w := Any.utf8_ValidRune Tryz.lays119 r w
def Tryz.lays137_ren : Go.Shelf.Ren := ⟨fun | 137 => 87 | 217 => 130 | 266 => 161 | n => n, fun | 9 => 9 | 5 => 5 | 3 => 3 | 20 => 20 | n => n, fun | n => n⟩
theorem Tryz.lays137 : Go.Proofs.Lays.n137 Tryz.prog Tryz.lays137_ren := {
  mixed := by kernel_rfl
  f137 := Tryz.func87.trans (congrArg some (by kernel_rfl))
  f217 := Tryz.func130.trans (congrArg some (by kernel_rfl))
  f266 := Tryz.func161.trans (congrArg some (by kernel_rfl))
  t3 := Tryz.underlying3
  a3 := Tryz.isAgg3
  z3 := Tryz.sizeOf3
  v3 := Tryz.zeroValue3
  t5 := Tryz.underlying5
  a5 := Tryz.isAgg5
  z5 := Tryz.sizeOf5
  v5 := Tryz.zeroValue5
  t9 := Tryz.underlying9
  a9 := Tryz.isAgg9
  z9 := Tryz.sizeOf9
  v9 := Tryz.zeroValue9 }
open Go.RowKit in
theorem Tryz.strings_IndexByte (s : ByteArray) (c : Int) (w : World) :
    Calls Tryz.prog 87 #[.string s, .int .u8 c] w fun e w' => e = .returned (.int .i64 (Lib.indexByte s.data.toList c.toNat.toUInt8)) ∧ w' = w := Any.strings_IndexByte Tryz.lays137 s c w
def Tryz.lays103_ren : Go.Shelf.Ren := ⟨fun | 103 => 182 | 210 => 196 | 206 => 206 | n => n, fun | 9 => 9 | 4 => 4 | 24 => 153 | 3 => 3 | 20 => 20 | n => n, fun | n => n⟩
theorem Tryz.lays103 : Go.Proofs.Lays.n103 Tryz.prog Tryz.lays103_ren := {
  mixed := by kernel_rfl
  f103 := Tryz.func182.trans (congrArg some (by kernel_rfl))
  f206 := Tryz.func206.trans (congrArg some (by kernel_rfl))
  f210 := Tryz.func196.trans (congrArg some (by kernel_rfl))
  t3 := Tryz.underlying3
  a3 := Tryz.isAgg3
  z3 := Tryz.sizeOf3
  v3 := Tryz.zeroValue3
  t4 := Tryz.underlying4
  a4 := Tryz.isAgg4
  z4 := Tryz.sizeOf4
  v4 := Tryz.zeroValue4
  t9 := Tryz.underlying9
  a9 := Tryz.isAgg9
  z9 := Tryz.sizeOf9
  v9 := Tryz.zeroValue9
  t24 := Tryz.underlying153
  a24 := Tryz.isAgg153
  z24 := Tryz.sizeOf153
  v24 := Tryz.zeroValue153 }
open Go.RowKit in
theorem Tryz.strings_CutPrefix (s p : ByteArray) (w : World) :
    Calls Tryz.prog 182 #[.string s, .string p] w fun e w' => e = .returned (.tuple #[.string ⟨(Lib.trimPrefix s.data.toList p.data.toList).toArray⟩, .bool (Lib.hasPrefix s.data.toList p.data.toList)]) ∧ w' = w := Any.strings_CutPrefix Tryz.lays103 s p w
def Tryz.lays104_ren : Go.Shelf.Ren := ⟨fun | 104 => 106 | 211 => 144 | 207 => 174 | n => n, fun | 9 => 9 | 4 => 4 | 24 => 153 | 3 => 3 | 20 => 20 | n => n, fun | n => n⟩
theorem Tryz.lays104 : Go.Proofs.Lays.n104 Tryz.prog Tryz.lays104_ren := {
  mixed := by kernel_rfl
  f104 := Tryz.func106.trans (congrArg some (by kernel_rfl))
  f207 := Tryz.func174.trans (congrArg some (by kernel_rfl))
  f211 := Tryz.func144.trans (congrArg some (by kernel_rfl))
  t3 := Tryz.underlying3
  a3 := Tryz.isAgg3
  z3 := Tryz.sizeOf3
  v3 := Tryz.zeroValue3
  t4 := Tryz.underlying4
  a4 := Tryz.isAgg4
  z4 := Tryz.sizeOf4
  v4 := Tryz.zeroValue4
  t9 := Tryz.underlying9
  a9 := Tryz.isAgg9
  z9 := Tryz.sizeOf9
  v9 := Tryz.zeroValue9
  t24 := Tryz.underlying153
  a24 := Tryz.isAgg153
  z24 := Tryz.sizeOf153
  v24 := Tryz.zeroValue153 }
open Go.RowKit in
theorem Tryz.strings_CutSuffix (s p : ByteArray) (w : World) (hs : s.size ≤ 9223372036854775807) :
    Calls Tryz.prog 106 #[.string s, .string p] w fun e w' => e = .returned (.tuple #[.string ⟨(Lib.trimSuffix s.data.toList p.data.toList).toArray⟩, .bool (Lib.hasSuffix s.data.toList p.data.toList)]) ∧ w' = w := Any.strings_CutSuffix Tryz.lays104 s p w hs
open Go.RowKit in
theorem Tryz.Builder_WriteString_k (B b : Nat) (bs : List Value) (s : ByteArray) (w : World) (h : Lib.IsBuilderF 99 5 B b bs w) (hlen : bs.length + s.size ≤ 140737488355328) (hBw : B ≤ w.heap.size) :
    Calls Tryz.prog 56 #[.pointer (some ⟨b, 0, none⟩), .string s] w fun e w' => e = .returned (.tuple #[.int .i64 s.size, .nilIface]) ∧ (Lib.BuilderAtF 99 5 B b (.pointer (some ⟨b, 0, none⟩)) (bs ++ Lib.strCells s) w' ∧ Below B w w' ∧ Lib.OthersKept 5 (some b) w w') := Any.Builder_WriteString_k Tryz.lays166 Tryz.Builder_Extra_166 B b bs s w h hlen hBw
open Go.RowKit in
theorem Tryz.Builder_String_any_k (B b : Nat) (l : List UInt8) (w : World) (h : Lib.IsBuilderF 99 5 B b (Lib.byteCells l) w) (hBw : B ≤ w.heap.size) :
    Calls Tryz.prog 58 #[.pointer (some ⟨b, 0, none⟩)] w fun e w' => e = .returned (.string ⟨l.toArray⟩) ∧ (Lib.IsBuilderF 99 5 B b (Lib.byteCells l) w' ∧ Below B w w' ∧ Lib.OthersKept 5 (some b) w w') := Any.Builder_String_any_k Tryz.lays169 Tryz.Builder_Extra_169 B b l w h hBw
def Tryz.laysM173_ren : Go.Shelf.Ren := ⟨fun | 173 => 121 | 246 => 149 | 283 => 185 | 284 => 186 | 285 => 187 | 286 => 188 | 129 => 200 | 317 => 199 | 318 => 201 | 319 => 202 | 320 => 203 | 337 => 212 | 338 => 213 | n => n, fun | 2 => 2 | 3 => 3 | 9 => 9 | 4 => 4 | 171 => 212 | 0 => 0 | 53 => 213 | 37 => 97 | 5 => 5 | 173 => 216 | 212 => 229 | 51 => 230 | 20 => 20 | 213 => 231 | 46 => 201 | 232 => 246 | 233 => 247 | n => n, fun | 17 => 3 | 18 => 6 | 19 => 7 | n => n⟩
theorem Tryz.laysM173 : Go.Proofs.LaysM.n173 Tryz.prog Tryz.laysM173_ren := {
  mixed := by kernel_rfl
  f129 := Tryz.func200.trans (congrArg some (by kernel_rfl))
  f173 := Tryz.func121.trans (congrArg some (by kernel_rfl))
  f246 := Tryz.func149.trans (congrArg some (by kernel_rfl))
  f283 := Tryz.func185.trans (congrArg some (by kernel_rfl))
  f284 := Tryz.func186.trans (congrArg some (by kernel_rfl))
  f285 := Tryz.func187.trans (congrArg some (by kernel_rfl))
  f286 := Tryz.func188.trans (congrArg some (by kernel_rfl))
  f317 := Tryz.func199.trans (congrArg some (by kernel_rfl))
  f318 := Tryz.func201.trans (congrArg some (by kernel_rfl))
  f319 := Tryz.func202.trans (congrArg some (by kernel_rfl))
  f320 := Tryz.func203.trans (congrArg some (by kernel_rfl))
  f337 := Tryz.func212.trans (congrArg some (by kernel_rfl))
  f338 := Tryz.func213.trans (congrArg some (by kernel_rfl))
  t0 := Tryz.underlying0
  a0 := Tryz.isAgg0
  z0 := Tryz.sizeOf0
  v0 := Tryz.zeroValue0
  t2 := Tryz.underlying2
  a2 := Tryz.isAgg2
  z2 := Tryz.sizeOf2
  v2 := Tryz.zeroValue2
  t3 := Tryz.underlying3
  a3 := Tryz.isAgg3
  z3 := Tryz.sizeOf3
  v3 := Tryz.zeroValue3
  t4 := Tryz.underlying4
  a4 := Tryz.isAgg4
  z4 := Tryz.sizeOf4
  v4 := Tryz.zeroValue4
  t5 := Tryz.underlying5
  a5 := Tryz.isAgg5
  z5 := Tryz.sizeOf5
  v5 := Tryz.zeroValue5
  t9 := Tryz.underlying9
  a9 := Tryz.isAgg9
  z9 := Tryz.sizeOf9
  v9 := Tryz.zeroValue9
  t20 := Tryz.underlying20
  a20 := Tryz.isAgg20
  z20 := Tryz.sizeOf20
  v20 := Tryz.zeroValue20
  t37 := Tryz.underlying97
  a37 := Tryz.isAgg97
  z37 := Tryz.sizeOf97
  v37 := Tryz.zeroValue97
  t46 := Tryz.underlying201
  a46 := Tryz.isAgg201
  z46 := Tryz.sizeOf201
  v46 := Tryz.zeroValue201
  t51 := Tryz.underlying230
  a51 := Tryz.isAgg230
  z51 := Tryz.sizeOf230
  v51 := Tryz.zeroValue230
  t53 := Tryz.underlying213
  a53 := Tryz.isAgg213
  z53 := Tryz.sizeOf213
  v53 := Tryz.zeroValue213
  t171 := Tryz.underlying212
  a171 := Tryz.isAgg212
  z171 := Tryz.sizeOf212
  v171 := Tryz.zeroValue212
  t173 := Tryz.underlying216
  a173 := Tryz.isAgg216
  z173 := Tryz.sizeOf216
  v173 := Tryz.zeroValue216
  t212 := Tryz.underlying229
  a212 := Tryz.isAgg229
  z212 := Tryz.sizeOf229
  v212 := Tryz.zeroValue229
  t213 := Tryz.underlying231
  a213 := Tryz.isAgg231
  z213 := Tryz.sizeOf231
  t232 := Tryz.underlying246
  a232 := Tryz.isAgg246
  z232 := Tryz.sizeOf246
  v232 := Tryz.zeroValue246
  t233 := Tryz.underlying247
  a233 := Tryz.isAgg247
  z233 := Tryz.sizeOf247
  v233 := Tryz.zeroValue247
  g17 := by kernel_rfl
  g18 := by kernel_rfl
  g19 := by kernel_rfl
  i0 := by kernel_rfl
  i2 := by kernel_rfl
  i3 := by kernel_rfl
  i4 := by kernel_rfl
  i5 := by kernel_rfl
  i9 := by kernel_rfl
  i20 := by kernel_rfl
  i37 := by kernel_rfl
  i46 := by kernel_rfl
  i51 := by kernel_rfl
  i53 := by kernel_rfl
  i171 := by kernel_rfl
  i173 := by kernel_rfl
  i212 := by kernel_rfl
  i232 := by kernel_rfl
  i233 := by kernel_rfl
  m17 := by kernel_rfl
  m18 := by kernel_rfl
  m19 := by kernel_rfl }
open Go.RowKit Go.Sort Go.Lib in
theorem Tryz.strconv_FormatInt_10 (n : Int) (h0 : -9223372036854775808 ≤ n) (h1 : n ≤ 9223372036854775807) (w : World) (htab : Lib.TabIs Tryz.prog w "internal/strconv.uint64pow10" .u64 Lib.pow10Tab) :
    Calls Tryz.prog 121 #[.int .i64 n, .int .i64 10] w fun e w' => e = .returned (.string ⟨(Lib.itoa n).toArray⟩) ∧ ∃ k os, w' = grow (w.drewN k) os := Any.strconv_FormatInt_10 Tryz.laysM173 n h0 h1 w htab
def Tryz.lays321_ren : Go.Shelf.Ren := ⟨fun | 321 => 214 | n => n, fun | 5 => 5 | 9 => 9 | 20 => 20 | n => n, fun | n => n⟩
theorem Tryz.lays321 : Go.Proofs.Lays.n321 Tryz.prog Tryz.lays321_ren := {
  mixed := by kernel_rfl
  f321 := Tryz.func214.trans (congrArg some (by kernel_rfl))
  t5 := Tryz.underlying5
  a5 := Tryz.isAgg5
  z5 := Tryz.sizeOf5
  v5 := Tryz.zeroValue5 }
open Go.RowKit in
theorem Tryz.internal_strconv_lower (c : Int) (w : World) :
    Calls Tryz.prog 214 #[.int .u8 c] w fun e w' => e = .returned (.int .u8 (bits .or .u8 c 32)) ∧ w' = w := Any.internal_strconv_lower Tryz.lays321 c w
def Tryz.laysC174_ren : Go.Shelf.Ren := ⟨fun | 174 => 184 | 247 => 197 | 245 => 198 | 287 => 207 | 279 => 208 | 280 => 209 | 281 => 210 | 282 => 211 | 321 => 214 | 322 => 215 | 316 => 216 | 171 => 218 | 205 => 217 | 243 => 219 | 246 => 149 | 283 => 185 | 284 => 186 | 285 => 187 | 286 => 188 | 129 => 200 | 317 => 199 | 318 => 201 | 319 => 202 | 320 => 203 | 337 => 212 | 338 => 213 | n => n, fun | 9 => 9 | 3 => 3 | 2 => 2 | 75 => 101 | 85 => 210 | 4 => 4 | 167 => 235 | 5 => 5 | 53 => 213 | 175 => 236 | 46 => 201 | 168 => 238 | 37 => 97 | 0 => 0 | 210 => 244 | 21 => 21 | 127 => 145 | 145 => 250 | 143 => 248 | 171 => 212 | 173 => 216 | 212 => 229 | 51 => 230 | 20 => 20 | 213 => 231 | 232 => 246 | 233 => 247 | 80 => 104 | n => n, fun | 15 => 4 | 16 => 5 | 17 => 3 | 18 => 6 | 19 => 7 | n => n⟩
theorem Tryz.laysC174 : Go.Proofs.LaysC.n174 Tryz.prog Tryz.laysC174_ren := {
  mixed := by kernel_rfl
  f129 := Tryz.func200.trans (congrArg some (by kernel_rfl))
  f171 := Tryz.func218.trans (congrArg some (by kernel_rfl))
  f174 := Tryz.func184.trans (congrArg some (by kernel_rfl))
  f205 := Tryz.func217.trans (congrArg some (by kernel_rfl))
  f243 := Tryz.func219.trans (congrArg some (by kernel_rfl))
  f245 := Tryz.func198.trans (congrArg some (by kernel_rfl))
  f246 := Tryz.func149.trans (congrArg some (by kernel_rfl))
  f247 := Tryz.func197.trans (congrArg some (by kernel_rfl))
  f279 := Tryz.func208.trans (congrArg some (by kernel_rfl))
  f280 := Tryz.func209.trans (congrArg some (by kernel_rfl))
  f281 := Tryz.func210.trans (congrArg some (by kernel_rfl))
  f282 := Tryz.func211.trans (congrArg some (by kernel_rfl))
  f283 := Tryz.func185.trans (congrArg some (by kernel_rfl))
  f284 := Tryz.func186.trans (congrArg some (by kernel_rfl))
  f285 := Tryz.func187.trans (congrArg some (by kernel_rfl))
  f286 := Tryz.func188.trans (congrArg some (by kernel_rfl))
  f287 := Tryz.func207.trans (congrArg some (by kernel_rfl))
  f316 := Tryz.func216.trans (congrArg some (by kernel_rfl))
  f317 := Tryz.func199.trans (congrArg some (by kernel_rfl))
  f318 := Tryz.func201.trans (congrArg some (by kernel_rfl))
  f319 := Tryz.func202.trans (congrArg some (by kernel_rfl))
  f320 := Tryz.func203.trans (congrArg some (by kernel_rfl))
  f321 := Tryz.func214.trans (congrArg some (by kernel_rfl))
  f322 := Tryz.func215.trans (congrArg some (by kernel_rfl))
  f337 := Tryz.func212.trans (congrArg some (by kernel_rfl))
  f338 := Tryz.func213.trans (congrArg some (by kernel_rfl))
  t0 := Tryz.underlying0
  a0 := Tryz.isAgg0
  z0 := Tryz.sizeOf0
  v0 := Tryz.zeroValue0
  t2 := Tryz.underlying2
  a2 := Tryz.isAgg2
  z2 := Tryz.sizeOf2
  v2 := Tryz.zeroValue2
  t3 := Tryz.underlying3
  a3 := Tryz.isAgg3
  z3 := Tryz.sizeOf3
  v3 := Tryz.zeroValue3
  t4 := Tryz.underlying4
  a4 := Tryz.isAgg4
  z4 := Tryz.sizeOf4
  v4 := Tryz.zeroValue4
  t5 := Tryz.underlying5
  a5 := Tryz.isAgg5
  z5 := Tryz.sizeOf5
  v5 := Tryz.zeroValue5
  t9 := Tryz.underlying9
  a9 := Tryz.isAgg9
  z9 := Tryz.sizeOf9
  v9 := Tryz.zeroValue9
  t20 := Tryz.underlying20
  a20 := Tryz.isAgg20
  z20 := Tryz.sizeOf20
  v20 := Tryz.zeroValue20
  t21 := Tryz.underlying21
  a21 := Tryz.isAgg21
  z21 := Tryz.sizeOf21
  v21 := Tryz.zeroValue21
  t37 := Tryz.underlying97
  a37 := Tryz.isAgg97
  z37 := Tryz.sizeOf97
  v37 := Tryz.zeroValue97
  t46 := Tryz.underlying201
  a46 := Tryz.isAgg201
  z46 := Tryz.sizeOf201
  v46 := Tryz.zeroValue201
  t51 := Tryz.underlying230
  a51 := Tryz.isAgg230
  z51 := Tryz.sizeOf230
  v51 := Tryz.zeroValue230
  t53 := Tryz.underlying213
  a53 := Tryz.isAgg213
  z53 := Tryz.sizeOf213
  v53 := Tryz.zeroValue213
  t75 := Tryz.underlying101
  a75 := Tryz.isAgg101
  z75 := Tryz.sizeOf101
  v75 := Tryz.zeroValue101
  t85 := Tryz.underlying210
  a85 := Tryz.isAgg210
  z85 := Tryz.sizeOf210
  v85 := Tryz.zeroValue210
  t127 := Tryz.underlying145
  a127 := Tryz.isAgg145
  z127 := Tryz.sizeOf145
  v127 := Tryz.zeroValue145
  t143 := Tryz.underlying248
  a143 := Tryz.isAgg248
  z143 := Tryz.sizeOf248
  v143 := Tryz.zeroValue248
  t145 := Tryz.underlying250
  a145 := Tryz.isAgg250
  z145 := Tryz.sizeOf250
  v145 := Tryz.zeroValue250
  t167 := Tryz.underlying235
  a167 := Tryz.isAgg235
  z167 := Tryz.sizeOf235
  v167 := Tryz.zeroValue235
  t168 := Tryz.underlying238
  a168 := Tryz.isAgg238
  z168 := Tryz.sizeOf238
  v168 := Tryz.zeroValue238
  t171 := Tryz.underlying212
  a171 := Tryz.isAgg212
  z171 := Tryz.sizeOf212
  v171 := Tryz.zeroValue212
  t173 := Tryz.underlying216
  a173 := Tryz.isAgg216
  z173 := Tryz.sizeOf216
  v173 := Tryz.zeroValue216
  t175 := Tryz.underlying236
  a175 := Tryz.isAgg236
  z175 := Tryz.sizeOf236
  v175 := Tryz.zeroValue236
  t210 := Tryz.underlying244
  a210 := Tryz.isAgg244
  z210 := Tryz.sizeOf244
  v210 := Tryz.zeroValue244
  t212 := Tryz.underlying229
  a212 := Tryz.isAgg229
  z212 := Tryz.sizeOf229
  v212 := Tryz.zeroValue229
  t213 := Tryz.underlying231
  a213 := Tryz.isAgg231
  z213 := Tryz.sizeOf231
  t232 := Tryz.underlying246
  a232 := Tryz.isAgg246
  z232 := Tryz.sizeOf246
  v232 := Tryz.zeroValue246
  t233 := Tryz.underlying247
  a233 := Tryz.isAgg247
  z233 := Tryz.sizeOf247
  v233 := Tryz.zeroValue247
  g15 := by kernel_rfl
  g16 := by kernel_rfl
  g17 := by kernel_rfl
  g18 := by kernel_rfl
  g19 := by kernel_rfl
  t80 := Tryz.underlying104
  a80 := Tryz.isAgg104
  z80 := Tryz.sizeOf104
  v80 := Tryz.zeroValue104
  i0 := by kernel_rfl
  i2 := by kernel_rfl
  i3 := by kernel_rfl
  i4 := by kernel_rfl
  i5 := by kernel_rfl
  i9 := by kernel_rfl
  i20 := by kernel_rfl
  i21 := by kernel_rfl
  i37 := by kernel_rfl
  i46 := by kernel_rfl
  i51 := by kernel_rfl
  i53 := by kernel_rfl
  i75 := by kernel_rfl
  i80 := by kernel_rfl
  i85 := by kernel_rfl
  i127 := by kernel_rfl
  i143 := by kernel_rfl
  i145 := by kernel_rfl
  i167 := by kernel_rfl
  i168 := by kernel_rfl
  i171 := by kernel_rfl
  i173 := by kernel_rfl
  i175 := by kernel_rfl
  i210 := by kernel_rfl
  i212 := by kernel_rfl
  i232 := by kernel_rfl
  i233 := by kernel_rfl
  m15 := by kernel_rfl
  m16 := by kernel_rfl
  m17 := by kernel_rfl
  m18 := by kernel_rfl
  m19 := by kernel_rfl
  c0 := by kernel_rfl
  c2 := by kernel_rfl
  c3 := by kernel_rfl
  c4 := by kernel_rfl
  c5 := by kernel_rfl
  c9 := by kernel_rfl
  c20 := by kernel_rfl
  c21 := by kernel_rfl
  c37 := by kernel_rfl
  c46 := by kernel_rfl
  c51 := by kernel_rfl
  c53 := by kernel_rfl
  c75 := by kernel_rfl
  c80 := by kernel_rfl
  c85 := by kernel_rfl
  c127 := by kernel_rfl
  c143 := by kernel_rfl
  c145 := by kernel_rfl
  c167 := by kernel_rfl
  c168 := by kernel_rfl
  c171 := by kernel_rfl
  c173 := by kernel_rfl
  c175 := by kernel_rfl
  c210 := by kernel_rfl
  c212 := by kernel_rfl
  c213 := by kernel_rfl
  c232 := by kernel_rfl
  c233 := by kernel_rfl }
open Go.RowKit in
theorem Tryz.strconv_ParseInt_10_at64_ok (s : ByteArray) (hmax : s.size ≤ 9223372036854775806) (v : Int) (h : Lib.parseIntB 64 s.data.toList = .ok v) (w : World) :
    Calls Tryz.prog 184 #[.string s, .int .i64 10, .int .i64 64] w fun e w' => e = .returned (.tuple #[.int .i64 v, .nilIface]) ∧ (w' = w ∨ ∃ t, w' = Lib.bytesWorld w 5 t) := Any.strconv_ParseInt_10_at64_ok Tryz.laysC174 s hmax v h w
def Tryz.lays219_ren : Go.Shelf.Ren := ⟨fun | 219 => 159 | 217 => 130 | 225 => 171 | 224 => 170 | 267 => 192 | 266 => 161 | 314 => 204 | n => n, fun | 9 => 9 | 3 => 3 | 4 => 4 | 5 => 5 | 46 => 201 | 146 => 233 | 51 => 230 | 20 => 20 | n => n, fun | 1 => 0 | n => n⟩
theorem Tryz.lays219 : Go.Proofs.Lays.n219 Tryz.prog Tryz.lays219_ren := {
  mixed := by kernel_rfl
  f217 := Tryz.func130.trans (congrArg some (by kernel_rfl))
  f219 := Tryz.func159.trans (congrArg some (by kernel_rfl))
  f224 := Tryz.func170.trans (congrArg some (by kernel_rfl))
  f225 := Tryz.func171.trans (congrArg some (by kernel_rfl))
  f266 := Tryz.func161.trans (congrArg some (by kernel_rfl))
  f267 := Tryz.func192.trans (congrArg some (by kernel_rfl))
  f314 := Tryz.func204.trans (congrArg some (by kernel_rfl))
  t3 := Tryz.underlying3
  a3 := Tryz.isAgg3
  z3 := Tryz.sizeOf3
  v3 := Tryz.zeroValue3
  t4 := Tryz.underlying4
  a4 := Tryz.isAgg4
  z4 := Tryz.sizeOf4
  v4 := Tryz.zeroValue4
  t5 := Tryz.underlying5
  a5 := Tryz.isAgg5
  z5 := Tryz.sizeOf5
  v5 := Tryz.zeroValue5
  t9 := Tryz.underlying9
  a9 := Tryz.isAgg9
  z9 := Tryz.sizeOf9
  v9 := Tryz.zeroValue9
  t46 := Tryz.underlying201
  a46 := Tryz.isAgg201
  z46 := Tryz.sizeOf201
  v46 := Tryz.zeroValue201
  t51 := Tryz.underlying230
  a51 := Tryz.isAgg230
  z51 := Tryz.sizeOf230
  v51 := Tryz.zeroValue230
  t146 := Tryz.underlying233
  a146 := Tryz.isAgg233
  z146 := Tryz.sizeOf233
  v146 := Tryz.zeroValue233
  g1 := by kernel_rfl }
open Go.RowKit Go.Lib in
theorem Tryz.stringslite_Index_one (s : ByteArray) (c : UInt8) (w : World) :
    Calls Tryz.prog 159 #[.string s, .string ⟨#[c]⟩] w fun e w' => e = .returned (.int .i64 (Lib.indexByte s.data.toList c)) ∧ w' = w := Any.stringslite_Index_one Tryz.lays219 s c w
def Tryz.lays143_ren : Go.Shelf.Ren := ⟨fun | 143 => 128 | 219 => 159 | 217 => 130 | 225 => 171 | 224 => 170 | 267 => 192 | 266 => 161 | 314 => 204 | n => n, fun | 9 => 9 | 3 => 3 | 4 => 4 | 5 => 5 | 46 => 201 | 146 => 233 | 51 => 230 | 20 => 20 | n => n, fun | 1 => 0 | n => n⟩
theorem Tryz.lays143 : Go.Proofs.Lays.n143 Tryz.prog Tryz.lays143_ren := {
  mixed := by kernel_rfl
  f143 := Tryz.func128.trans (congrArg some (by kernel_rfl))
  f217 := Tryz.func130.trans (congrArg some (by kernel_rfl))
  f219 := Tryz.func159.trans (congrArg some (by kernel_rfl))
  f224 := Tryz.func170.trans (congrArg some (by kernel_rfl))
  f225 := Tryz.func171.trans (congrArg some (by kernel_rfl))
  f266 := Tryz.func161.trans (congrArg some (by kernel_rfl))
  f267 := Tryz.func192.trans (congrArg some (by kernel_rfl))
  f314 := Tryz.func204.trans (congrArg some (by kernel_rfl))
  t3 := Tryz.underlying3
  a3 := Tryz.isAgg3
  z3 := Tryz.sizeOf3
  v3 := Tryz.zeroValue3
  t4 := Tryz.underlying4
  a4 := Tryz.isAgg4
  z4 := Tryz.sizeOf4
  v4 := Tryz.zeroValue4
  t5 := Tryz.underlying5
  a5 := Tryz.isAgg5
  z5 := Tryz.sizeOf5
  v5 := Tryz.zeroValue5
  t9 := Tryz.underlying9
  a9 := Tryz.isAgg9
  z9 := Tryz.sizeOf9
  v9 := Tryz.zeroValue9
  t46 := Tryz.underlying201
  a46 := Tryz.isAgg201
  z46 := Tryz.sizeOf201
  v46 := Tryz.zeroValue201
  t51 := Tryz.underlying230
  a51 := Tryz.isAgg230
  z51 := Tryz.sizeOf230
  v51 := Tryz.zeroValue230
  t146 := Tryz.underlying233
  a146 := Tryz.isAgg233
  z146 := Tryz.sizeOf233
  v146 := Tryz.zeroValue233
  g1 := by kernel_rfl }
open Go.RowKit Go.Lib in
theorem Tryz.strings_Index_one (s : ByteArray) (c : UInt8) (w : World) :
    Calls Tryz.prog 128 #[.string s, .string ⟨#[c]⟩] w fun e w' => e = .returned (.int .i64 (Lib.indexByte s.data.toList c)) ∧ w' = w := Any.strings_Index_one Tryz.lays143 s c w
def Tryz.lays145_ren : Go.Shelf.Ren := ⟨fun | 145 => 102 | 220 => 142 | 219 => 159 | 217 => 130 | 225 => 171 | 224 => 170 | 267 => 192 | 266 => 161 | 314 => 204 | n => n, fun | 9 => 9 | 4 => 4 | 59 => 147 | 3 => 3 | 5 => 5 | 46 => 201 | 146 => 233 | 51 => 230 | 20 => 20 | n => n, fun | 1 => 0 | n => n⟩
theorem Tryz.lays145 : Go.Proofs.Lays.n145 Tryz.prog Tryz.lays145_ren := {
  mixed := by kernel_rfl
  f145 := Tryz.func102.trans (congrArg some (by kernel_rfl))
  f217 := Tryz.func130.trans (congrArg some (by kernel_rfl))
  f219 := Tryz.func159.trans (congrArg some (by kernel_rfl))
  f220 := Tryz.func142.trans (congrArg some (by kernel_rfl))
  f224 := Tryz.func170.trans (congrArg some (by kernel_rfl))
  f225 := Tryz.func171.trans (congrArg some (by kernel_rfl))
  f266 := Tryz.func161.trans (congrArg some (by kernel_rfl))
  f267 := Tryz.func192.trans (congrArg some (by kernel_rfl))
  f314 := Tryz.func204.trans (congrArg some (by kernel_rfl))
  t3 := Tryz.underlying3
  a3 := Tryz.isAgg3
  z3 := Tryz.sizeOf3
  v3 := Tryz.zeroValue3
  t4 := Tryz.underlying4
  a4 := Tryz.isAgg4
  z4 := Tryz.sizeOf4
  v4 := Tryz.zeroValue4
  t5 := Tryz.underlying5
  a5 := Tryz.isAgg5
  z5 := Tryz.sizeOf5
  v5 := Tryz.zeroValue5
  t9 := Tryz.underlying9
  a9 := Tryz.isAgg9
  z9 := Tryz.sizeOf9
  v9 := Tryz.zeroValue9
  t46 := Tryz.underlying201
  a46 := Tryz.isAgg201
  z46 := Tryz.sizeOf201
  v46 := Tryz.zeroValue201
  t51 := Tryz.underlying230
  a51 := Tryz.isAgg230
  z51 := Tryz.sizeOf230
  v51 := Tryz.zeroValue230
  t59 := Tryz.underlying147
  a59 := Tryz.isAgg147
  z59 := Tryz.sizeOf147
  v59 := Tryz.zeroValue147
  t146 := Tryz.underlying233
  a146 := Tryz.isAgg233
  z146 := Tryz.sizeOf233
  v146 := Tryz.zeroValue233
  g1 := by kernel_rfl }
open Go.RowKit Go.Lib in
theorem Tryz.strings_Cut (s sep : ByteArray) (m : Int) (w : World) (hs : s.size < 4294967281) (hm : w.cell? ⟨0, 0, none⟩ = some (.int .i64 m)) :
    Calls Tryz.prog 102 #[.string s, .string sep] w fun e w' => e = .returned (.tuple #[.string ⟨(Lib.cut s.data.toList sep.data.toList).1.toArray⟩, .string ⟨(Lib.cut s.data.toList sep.data.toList).2.1.toArray⟩, .bool (Lib.cut s.data.toList sep.data.toList).2.2]) ∧ ∃ n, w' = w.drewN n := Any.strings_Cut Tryz.lays145 s sep m w hs hm
def Tryz.lays138_ren : Go.Shelf.Ren := ⟨fun | 138 => 126 | 195 => 156 | 218 => 157 | 143 => 128 | 219 => 159 | 217 => 130 | 225 => 171 | 224 => 170 | 267 => 192 | 266 => 161 | 314 => 204 | n => n, fun | 9 => 9 | 3 => 3 | 4 => 4 | 5 => 5 | 0 => 0 | 46 => 201 | 146 => 233 | 51 => 230 | 20 => 20 | n => n, fun | 1 => 0 | n => n⟩
theorem Tryz.lays138 : Go.Proofs.Lays.n138 Tryz.prog Tryz.lays138_ren := {
  mixed := by kernel_rfl
  f138 := Tryz.func126.trans (congrArg some (by kernel_rfl))
  f143 := Tryz.func128.trans (congrArg some (by kernel_rfl))
  f195 := Tryz.func156.trans (congrArg some (by kernel_rfl))
  f217 := Tryz.func130.trans (congrArg some (by kernel_rfl))
  f218 := Tryz.func157.trans (congrArg some (by kernel_rfl))
  f219 := Tryz.func159.trans (congrArg some (by kernel_rfl))
  f224 := Tryz.func170.trans (congrArg some (by kernel_rfl))
  f225 := Tryz.func171.trans (congrArg some (by kernel_rfl))
  f266 := Tryz.func161.trans (congrArg some (by kernel_rfl))
  f267 := Tryz.func192.trans (congrArg some (by kernel_rfl))
  f314 := Tryz.func204.trans (congrArg some (by kernel_rfl))
  t0 := Tryz.underlying0
  a0 := Tryz.isAgg0
  z0 := Tryz.sizeOf0
  v0 := Tryz.zeroValue0
  t3 := Tryz.underlying3
  a3 := Tryz.isAgg3
  z3 := Tryz.sizeOf3
  v3 := Tryz.zeroValue3
  t4 := Tryz.underlying4
  a4 := Tryz.isAgg4
  z4 := Tryz.sizeOf4
  v4 := Tryz.zeroValue4
  t5 := Tryz.underlying5
  a5 := Tryz.isAgg5
  z5 := Tryz.sizeOf5
  v5 := Tryz.zeroValue5
  t9 := Tryz.underlying9
  a9 := Tryz.isAgg9
  z9 := Tryz.sizeOf9
  v9 := Tryz.zeroValue9
  t46 := Tryz.underlying201
  a46 := Tryz.isAgg201
  z46 := Tryz.sizeOf201
  v46 := Tryz.zeroValue201
  t51 := Tryz.underlying230
  a51 := Tryz.isAgg230
  z51 := Tryz.sizeOf230
  v51 := Tryz.zeroValue230
  t146 := Tryz.underlying233
  a146 := Tryz.isAgg233
  z146 := Tryz.sizeOf233
  v146 := Tryz.zeroValue233
  g1 := by kernel_rfl }
open Go.RowKit Go.Lib in
theorem Tryz.strings_Count_one (s : ByteArray) (c : UInt8) (w : World) :
    Calls Tryz.prog 126 #[.string s, .string ⟨#[c]⟩] w fun e w' => e = .returned (.int .i64 (Lib.countByte s.data.toList c)) ∧ w' = w := Any.strings_Count_one Tryz.lays138 s c w
def Tryz.laysM219_ren : Go.Shelf.Ren := ⟨fun | 219 => 159 | 217 => 130 | 225 => 171 | 224 => 170 | 267 => 192 | 266 => 161 | 314 => 204 | n => n, fun | 9 => 9 | 3 => 3 | 4 => 4 | 5 => 5 | 46 => 201 | 146 => 233 | 51 => 230 | 20 => 20 | n => n, fun | 1 => 0 | n => n⟩
theorem Tryz.laysM219 : Go.Proofs.LaysM.n219 Tryz.prog Tryz.laysM219_ren := {
  mixed := by kernel_rfl
  f217 := Tryz.func130.trans (congrArg some (by kernel_rfl))
  f219 := Tryz.func159.trans (congrArg some (by kernel_rfl))
  f224 := Tryz.func170.trans (congrArg some (by kernel_rfl))
  f225 := Tryz.func171.trans (congrArg some (by kernel_rfl))
  f266 := Tryz.func161.trans (congrArg some (by kernel_rfl))
  f267 := Tryz.func192.trans (congrArg some (by kernel_rfl))
  f314 := Tryz.func204.trans (congrArg some (by kernel_rfl))
  t3 := Tryz.underlying3
  a3 := Tryz.isAgg3
  z3 := Tryz.sizeOf3
  v3 := Tryz.zeroValue3
  t4 := Tryz.underlying4
  a4 := Tryz.isAgg4
  z4 := Tryz.sizeOf4
  v4 := Tryz.zeroValue4
  t5 := Tryz.underlying5
  a5 := Tryz.isAgg5
  z5 := Tryz.sizeOf5
  v5 := Tryz.zeroValue5
  t9 := Tryz.underlying9
  a9 := Tryz.isAgg9
  z9 := Tryz.sizeOf9
  v9 := Tryz.zeroValue9
  t46 := Tryz.underlying201
  a46 := Tryz.isAgg201
  z46 := Tryz.sizeOf201
  v46 := Tryz.zeroValue201
  t51 := Tryz.underlying230
  a51 := Tryz.isAgg230
  z51 := Tryz.sizeOf230
  v51 := Tryz.zeroValue230
  t146 := Tryz.underlying233
  a146 := Tryz.isAgg233
  z146 := Tryz.sizeOf233
  v146 := Tryz.zeroValue233
  g1 := by kernel_rfl
  i3 := by kernel_rfl
  i4 := by kernel_rfl
  i5 := by kernel_rfl
  i9 := by kernel_rfl
  i46 := by kernel_rfl
  i51 := by kernel_rfl
  i146 := by kernel_rfl
  m1 := by kernel_rfl
  s1_3 := fun w h => Go.Proofs.cell_of_shapedOpen_int (zero := #[.int .i64 0]) (t := 3) h (of_decide_eq_true (by kernel_rfl)) (by kernel_rfl) rfl (by kernel_rfl) (by kernel_rfl) Tryz.underlying3 }
def Tryz.lays102_ren : Go.Shelf.Ren := ⟨fun | 102 => 150 | 209 => 189 | 207 => 174 | n => n, fun | 9 => 9 | 4 => 4 | 3 => 3 | 20 => 20 | n => n, fun | n => n⟩
theorem Tryz.lays102 : Go.Proofs.Lays.n102 Tryz.prog Tryz.lays102_ren := {
  mixed := by kernel_rfl
  f102 := Tryz.func150.trans (congrArg some (by kernel_rfl))
  f207 := Tryz.func174.trans (congrArg some (by kernel_rfl))
  f209 := Tryz.func189.trans (congrArg some (by kernel_rfl))
  t3 := Tryz.underlying3
  a3 := Tryz.isAgg3
  z3 := Tryz.sizeOf3
  v3 := Tryz.zeroValue3
  t4 := Tryz.underlying4
  a4 := Tryz.isAgg4
  z4 := Tryz.sizeOf4
  v4 := Tryz.zeroValue4
  t9 := Tryz.underlying9
  a9 := Tryz.isAgg9
  z9 := Tryz.sizeOf9
  v9 := Tryz.zeroValue9 }
open Go.RowKit Go.Lib in
theorem Tryz.strings_TrimSuffix (s p : ByteArray) (w : World) (hs : s.size ≤ 9223372036854775807) :
    Calls Tryz.prog 150 #[.string s, .string p] w fun e w' => e = .returned (.string ⟨(Lib.trimSuffix s.data.toList p.data.toList).toArray⟩) ∧ w' = w := Any.strings_TrimSuffix Tryz.lays102 s p w hs
def Tryz.lays155_ren : Go.Shelf.Ren := ⟨fun | 155 => 40 | 154 => 85 | 138 => 126 | 165 => 127 | 143 => 128 | 166 => 56 | 197 => 129 | 169 => 58 | 195 => 156 | 218 => 157 | 240 => 99 | 241 => 158 | 219 => 159 | 260 => 160 | 276 => 137 | 277 => 191 | 217 => 130 | 225 => 171 | 224 => 170 | 267 => 192 | 266 => 161 | 314 => 204 | n => n, fun | 9 => 9 | 3 => 3 | 4 => 4 | 72 => 99 | 0 => 0 | 76 => 102 | 105 => 174 | 21 => 21 | 5 => 5 | 70 => 96 | 20 => 20 | 37 => 97 | 75 => 101 | 127 => 145 | 164 => 182 | 46 => 201 | 119 => 220 | 139 => 223 | 138 => 222 | 146 => 233 | 51 => 230 | 80 => 104 | n => n, fun | 1 => 0 | 3 => 1 | 4 => 2 | n => n⟩
theorem Tryz.lays155 : Go.Proofs.Lays.n155 Tryz.prog Tryz.lays155_ren := {
  mixed := by kernel_rfl
  f138 := Tryz.func126.trans (congrArg some (by kernel_rfl))
  f143 := Tryz.func128.trans (congrArg some (by kernel_rfl))
  f154 := Tryz.func85.trans (congrArg some (by kernel_rfl))
  f155 := Tryz.func40.trans (congrArg some (by kernel_rfl))
  f165 := Tryz.func127.trans (congrArg some (by kernel_rfl))
  f166 := Tryz.func56.trans (congrArg some (by kernel_rfl))
  f169 := Tryz.func58.trans (congrArg some (by kernel_rfl))
  f195 := Tryz.func156.trans (congrArg some (by kernel_rfl))
  f197 := Tryz.func129.trans (congrArg some (by kernel_rfl))
  f217 := Tryz.func130.trans (congrArg some (by kernel_rfl))
  f218 := Tryz.func157.trans (congrArg some (by kernel_rfl))
  f219 := Tryz.func159.trans (congrArg some (by kernel_rfl))
  f224 := Tryz.func170.trans (congrArg some (by kernel_rfl))
  f225 := Tryz.func171.trans (congrArg some (by kernel_rfl))
  f240 := Tryz.func99.trans (congrArg some (by kernel_rfl))
  f241 := Tryz.func158.trans (congrArg some (by kernel_rfl))
  f260 := Tryz.func160.trans (congrArg some (by kernel_rfl))
  f266 := Tryz.func161.trans (congrArg some (by kernel_rfl))
  f267 := Tryz.func192.trans (congrArg some (by kernel_rfl))
  f276 := Tryz.func137.trans (congrArg some (by kernel_rfl))
  f277 := Tryz.func191.trans (congrArg some (by kernel_rfl))
  f314 := Tryz.func204.trans (congrArg some (by kernel_rfl))
  t0 := Tryz.underlying0
  a0 := Tryz.isAgg0
  z0 := Tryz.sizeOf0
  v0 := Tryz.zeroValue0
  t3 := Tryz.underlying3
  a3 := Tryz.isAgg3
  z3 := Tryz.sizeOf3
  v3 := Tryz.zeroValue3
  t4 := Tryz.underlying4
  a4 := Tryz.isAgg4
  z4 := Tryz.sizeOf4
  v4 := Tryz.zeroValue4
  t5 := Tryz.underlying5
  a5 := Tryz.isAgg5
  z5 := Tryz.sizeOf5
  v5 := Tryz.zeroValue5
  t9 := Tryz.underlying9
  a9 := Tryz.isAgg9
  z9 := Tryz.sizeOf9
  v9 := Tryz.zeroValue9
  t20 := Tryz.underlying20
  a20 := Tryz.isAgg20
  z20 := Tryz.sizeOf20
  v20 := Tryz.zeroValue20
  t21 := Tryz.underlying21
  a21 := Tryz.isAgg21
  z21 := Tryz.sizeOf21
  v21 := Tryz.zeroValue21
  t37 := Tryz.underlying97
  a37 := Tryz.isAgg97
  z37 := Tryz.sizeOf97
  v37 := Tryz.zeroValue97
  t46 := Tryz.underlying201
  a46 := Tryz.isAgg201
  z46 := Tryz.sizeOf201
  v46 := Tryz.zeroValue201
  t51 := Tryz.underlying230
  a51 := Tryz.isAgg230
  z51 := Tryz.sizeOf230
  v51 := Tryz.zeroValue230
  t70 := Tryz.underlying96
  a70 := Tryz.isAgg96
  z70 := Tryz.sizeOf96
  v70 := Tryz.zeroValue96
  t72 := Tryz.underlying99
  a72 := Tryz.isAgg99
  z72 := Tryz.sizeOf99
  v72 := Tryz.zeroValue99
  t75 := Tryz.underlying101
  a75 := Tryz.isAgg101
  z75 := Tryz.sizeOf101
  v75 := Tryz.zeroValue101
  t76 := Tryz.underlying102
  a76 := Tryz.isAgg102
  z76 := Tryz.sizeOf102
  v76 := Tryz.zeroValue102
  t105 := Tryz.underlying174
  a105 := Tryz.isAgg174
  z105 := Tryz.sizeOf174
  v105 := Tryz.zeroValue174
  t119 := Tryz.underlying220
  a119 := Tryz.isAgg220
  z119 := Tryz.sizeOf220
  t127 := Tryz.underlying145
  a127 := Tryz.isAgg145
  z127 := Tryz.sizeOf145
  v127 := Tryz.zeroValue145
  t138 := Tryz.underlying222
  a138 := Tryz.isAgg222
  z138 := Tryz.sizeOf222
  v138 := Tryz.zeroValue222
  t139 := Tryz.underlying223
  a139 := Tryz.isAgg223
  z139 := Tryz.sizeOf223
  v139 := Tryz.zeroValue223
  t146 := Tryz.underlying233
  a146 := Tryz.isAgg233
  z146 := Tryz.sizeOf233
  v146 := Tryz.zeroValue233
  t164 := Tryz.underlying182
  a164 := Tryz.isAgg182
  z164 := Tryz.sizeOf182
  v164 := Tryz.zeroValue182
  g1 := by kernel_rfl
  g3 := by kernel_rfl
  g4 := by kernel_rfl }
theorem Tryz.Builder_Extra_155 : Builder.Extra Tryz.prog Tryz.lays155_ren := {
  sizeBuilder := by kernel_rfl
  liesBuilder := by kernel_rfl
  t5 := Tryz.underlying5
  a5 := Tryz.isAgg5
  z5 := Tryz.sizeOf5
  v5 := Tryz.zeroValue5
  infoByte := by kernel_rfl
  cellsByte := by kernel_rfl
  sizeByte := by kernel_rfl
  neB5 := by decide }
open Go.RowKit Go.Lib in
theorem Tryz.strings_ReplaceAll (s old new : ByteArray) (m : Int) (w : World) (hs : s.size < 4294967281) (hm : w.cell? ⟨0, 0, none⟩ = some (.int .i64 m)) (h1 : 1 ≤ old.size) (hlen : s.size + Lib.countB s old * new.size ≤ 140737488355328) :
    Calls Tryz.prog 40 #[.string s, .string old, .string new] w fun e w' =>
      e = .returned (.string ⟨(Lib.replaceAll s.data.toList old.data.toList new.data.toList).toArray⟩) ∧ Below w.heap.size w w' := Any.strings_ReplaceAll Tryz.lays155 Tryz.Builder_Extra_155 s old new m w hs hm h1 hlen
def Tryz.laysM146_ren : Go.Shelf.Ren := ⟨fun | 146 => 90 | 221 => 131 | 268 => 162 | 138 => 126 | 143 => 128 | 195 => 156 | 197 => 129 | 218 => 157 | 219 => 159 | 260 => 160 | 217 => 130 | 225 => 171 | 224 => 170 | 267 => 192 | 266 => 161 | 314 => 204 | n => n, fun | 9 => 9 | 31 => 76 | 3 => 3 | 4 => 4 | 0 => 0 | 105 => 174 | 21 => 21 | 5 => 5 | 46 => 201 | 119 => 220 | 139 => 223 | 138 => 222 | 146 => 233 | 51 => 230 | 20 => 20 | n => n, fun | 1 => 0 | 3 => 1 | 4 => 2 | n => n⟩
theorem Tryz.laysM146 : Go.Proofs.LaysM.n146 Tryz.prog Tryz.laysM146_ren := {
  mixed := by kernel_rfl
  f138 := Tryz.func126.trans (congrArg some (by kernel_rfl))
  f143 := Tryz.func128.trans (congrArg some (by kernel_rfl))
  f146 := Tryz.func90.trans (congrArg some (by kernel_rfl))
  f195 := Tryz.func156.trans (congrArg some (by kernel_rfl))
  f197 := Tryz.func129.trans (congrArg some (by kernel_rfl))
  f217 := Tryz.func130.trans (congrArg some (by kernel_rfl))
  f218 := Tryz.func157.trans (congrArg some (by kernel_rfl))
  f219 := Tryz.func159.trans (congrArg some (by kernel_rfl))
  f221 := Tryz.func131.trans (congrArg some (by kernel_rfl))
  f224 := Tryz.func170.trans (congrArg some (by kernel_rfl))
  f225 := Tryz.func171.trans (congrArg some (by kernel_rfl))
  f260 := Tryz.func160.trans (congrArg some (by kernel_rfl))
  f266 := Tryz.func161.trans (congrArg some (by kernel_rfl))
  f267 := Tryz.func192.trans (congrArg some (by kernel_rfl))
  f268 := Tryz.func162.trans (congrArg some (by kernel_rfl))
  f314 := Tryz.func204.trans (congrArg some (by kernel_rfl))
  t0 := Tryz.underlying0
  a0 := Tryz.isAgg0
  z0 := Tryz.sizeOf0
  v0 := Tryz.zeroValue0
  t3 := Tryz.underlying3
  a3 := Tryz.isAgg3
  z3 := Tryz.sizeOf3
  v3 := Tryz.zeroValue3
  t4 := Tryz.underlying4
  a4 := Tryz.isAgg4
  z4 := Tryz.sizeOf4
  v4 := Tryz.zeroValue4
  t5 := Tryz.underlying5
  a5 := Tryz.isAgg5
  z5 := Tryz.sizeOf5
  v5 := Tryz.zeroValue5
  t9 := Tryz.underlying9
  a9 := Tryz.isAgg9
  z9 := Tryz.sizeOf9
  v9 := Tryz.zeroValue9
  t21 := Tryz.underlying21
  a21 := Tryz.isAgg21
  z21 := Tryz.sizeOf21
  v21 := Tryz.zeroValue21
  t31 := Tryz.underlying76
  a31 := Tryz.isAgg76
  z31 := Tryz.sizeOf76
  v31 := Tryz.zeroValue76
  t46 := Tryz.underlying201
  a46 := Tryz.isAgg201
  z46 := Tryz.sizeOf201
  v46 := Tryz.zeroValue201
  t51 := Tryz.underlying230
  a51 := Tryz.isAgg230
  z51 := Tryz.sizeOf230
  v51 := Tryz.zeroValue230
  t105 := Tryz.underlying174
  a105 := Tryz.isAgg174
  z105 := Tryz.sizeOf174
  v105 := Tryz.zeroValue174
  t119 := Tryz.underlying220
  a119 := Tryz.isAgg220
  z119 := Tryz.sizeOf220
  t138 := Tryz.underlying222
  a138 := Tryz.isAgg222
  z138 := Tryz.sizeOf222
  v138 := Tryz.zeroValue222
  t139 := Tryz.underlying223
  a139 := Tryz.isAgg223
  z139 := Tryz.sizeOf223
  v139 := Tryz.zeroValue223
  t146 := Tryz.underlying233
  a146 := Tryz.isAgg233
  z146 := Tryz.sizeOf233
  v146 := Tryz.zeroValue233
  g1 := by kernel_rfl
  g3 := by kernel_rfl
  g4 := by kernel_rfl
  i0 := by kernel_rfl
  i3 := by kernel_rfl
  i4 := by kernel_rfl
  i5 := by kernel_rfl
  i9 := by kernel_rfl
  i21 := by kernel_rfl
  i31 := by kernel_rfl
  i46 := by kernel_rfl
  i51 := by kernel_rfl
  i105 := by kernel_rfl
  i138 := by kernel_rfl
  i139 := by kernel_rfl
  i146 := by kernel_rfl
  m1 := by kernel_rfl
  s1_3 := fun w h => Go.Proofs.cell_of_shapedOpen_int (zero := #[.int .i64 0]) (t := 3) h (of_decide_eq_true (by kernel_rfl)) (by kernel_rfl) rfl (by kernel_rfl) (by kernel_rfl) Tryz.underlying3
  m3 := by kernel_rfl
  m4 := by kernel_rfl }
def Tryz.lays152_ren : Go.Shelf.Ren := ⟨fun | 152 => 138 | 137 => 87 | 119 => 169 | 224 => 170 | 225 => 171 | 217 => 130 | 266 => 161 | n => n, fun | 9 => 9 | 21 => 21 | 3 => 3 | 4 => 4 | 5 => 5 | 0 => 0 | 46 => 201 | 20 => 20 | n => n, fun | n => n⟩
theorem Tryz.lays152 : Go.Proofs.Lays.n152 Tryz.prog Tryz.lays152_ren := {
  mixed := by kernel_rfl
  f119 := Tryz.func169.trans (congrArg some (by kernel_rfl))
  f137 := Tryz.func87.trans (congrArg some (by kernel_rfl))
  f152 := Tryz.func138.trans (congrArg some (by kernel_rfl))
  f217 := Tryz.func130.trans (congrArg some (by kernel_rfl))
  f224 := Tryz.func170.trans (congrArg some (by kernel_rfl))
  f225 := Tryz.func171.trans (congrArg some (by kernel_rfl))
  f266 := Tryz.func161.trans (congrArg some (by kernel_rfl))
  t0 := Tryz.underlying0
  a0 := Tryz.isAgg0
  z0 := Tryz.sizeOf0
  v0 := Tryz.zeroValue0
  t3 := Tryz.underlying3
  a3 := Tryz.isAgg3
  z3 := Tryz.sizeOf3
  v3 := Tryz.zeroValue3
  t4 := Tryz.underlying4
  a4 := Tryz.isAgg4
  z4 := Tryz.sizeOf4
  v4 := Tryz.zeroValue4
  t5 := Tryz.underlying5
  a5 := Tryz.isAgg5
  z5 := Tryz.sizeOf5
  v5 := Tryz.zeroValue5
  t9 := Tryz.underlying9
  a9 := Tryz.isAgg9
  z9 := Tryz.sizeOf9
  v9 := Tryz.zeroValue9
  t21 := Tryz.underlying21
  a21 := Tryz.isAgg21
  z21 := Tryz.sizeOf21
  v21 := Tryz.zeroValue21
  t46 := Tryz.underlying201
  a46 := Tryz.isAgg201
  z46 := Tryz.sizeOf201
  v46 := Tryz.zeroValue201 }
open Go.RowKit Go.Lib in
theorem Tryz.strings_IndexRune_ascii (s : ByteArray) (r : Int) (w : World) (h0 : 0 ≤ r) (h1 : r < 128) :
    Calls Tryz.prog 138 #[.string s, .int .i32 r] w fun e w' => e = .returned (.int .i64 (Lib.indexByte s.data.toList r.toNat.toUInt8)) ∧ w' = w := Any.strings_IndexRune_ascii Tryz.lays152 s r w h0 h1
def Tryz.lays226_ren : Go.Shelf.Ren := ⟨fun | 226 => 139 | n => n, fun | 3 => 3 | 4 => 4 | 9 => 9 | 20 => 20 | n => n, fun | n => n⟩
theorem Tryz.lays226 : Go.Proofs.Lays.n226 Tryz.prog Tryz.lays226_ren := {
  mixed := by kernel_rfl
  f226 := Tryz.func139.trans (congrArg some (by kernel_rfl))
  t3 := Tryz.underlying3
  a3 := Tryz.isAgg3
  z3 := Tryz.sizeOf3
  v3 := Tryz.zeroValue3
  t4 := Tryz.underlying4
  a4 := Tryz.isAgg4
  z4 := Tryz.sizeOf4
  v4 := Tryz.zeroValue4 }
open Go.RowKit Go.Lib in
theorem Tryz.strings_shouldUseASCIISet (n : Int) (w : World) :
    Calls Tryz.prog 139 #[.int .i64 n] w fun e w' => e = .returned (.bool (decide (8 < n))) ∧ w' = w := Any.strings_shouldUseASCIISet Tryz.lays226 n w
def Tryz.lays153_ren : Go.Shelf.Ren := ⟨fun | 153 => 101 | 152 => 138 | 226 => 139 | 227 => 140 | 228 => 141 | 137 => 87 | 119 => 169 | 224 => 170 | 225 => 171 | 217 => 130 | 266 => 161 | n => n, fun | 9 => 9 | 3 => 3 | 4 => 4 | 5 => 5 | 21 => 21 | 117 => 187 | 116 => 186 | 0 => 0 | 46 => 201 | 124 => 197 | 20 => 20 | n => n, fun | n => n⟩
theorem Tryz.lays153 : Go.Proofs.Lays.n153 Tryz.prog Tryz.lays153_ren := {
  mixed := by kernel_rfl
  f119 := Tryz.func169.trans (congrArg some (by kernel_rfl))
  f137 := Tryz.func87.trans (congrArg some (by kernel_rfl))
  f152 := Tryz.func138.trans (congrArg some (by kernel_rfl))
  f153 := Tryz.func101.trans (congrArg some (by kernel_rfl))
  f217 := Tryz.func130.trans (congrArg some (by kernel_rfl))
  f224 := Tryz.func170.trans (congrArg some (by kernel_rfl))
  f225 := Tryz.func171.trans (congrArg some (by kernel_rfl))
  f226 := Tryz.func139.trans (congrArg some (by kernel_rfl))
  f227 := Tryz.func140.trans (congrArg some (by kernel_rfl))
  f228 := Tryz.func141.trans (congrArg some (by kernel_rfl))
  f266 := Tryz.func161.trans (congrArg some (by kernel_rfl))
  t0 := Tryz.underlying0
  a0 := Tryz.isAgg0
  z0 := Tryz.sizeOf0
  v0 := Tryz.zeroValue0
  t3 := Tryz.underlying3
  a3 := Tryz.isAgg3
  z3 := Tryz.sizeOf3
  v3 := Tryz.zeroValue3
  t4 := Tryz.underlying4
  a4 := Tryz.isAgg4
  z4 := Tryz.sizeOf4
  v4 := Tryz.zeroValue4
  t5 := Tryz.underlying5
  a5 := Tryz.isAgg5
  z5 := Tryz.sizeOf5
  v5 := Tryz.zeroValue5
  t9 := Tryz.underlying9
  a9 := Tryz.isAgg9
  z9 := Tryz.sizeOf9
  v9 := Tryz.zeroValue9
  t21 := Tryz.underlying21
  a21 := Tryz.isAgg21
  z21 := Tryz.sizeOf21
  v21 := Tryz.zeroValue21
  t46 := Tryz.underlying201
  a46 := Tryz.isAgg201
  z46 := Tryz.sizeOf201
  v46 := Tryz.zeroValue201
  t116 := Tryz.underlying186
  a116 := Tryz.isAgg186
  z116 := Tryz.sizeOf186
  t117 := Tryz.underlying187
  a117 := Tryz.isAgg187
  z117 := Tryz.sizeOf187
  v117 := Tryz.zeroValue187
  t124 := Tryz.underlying197
  a124 := Tryz.isAgg197
  z124 := Tryz.sizeOf197
  v124 := Tryz.zeroValue197 }
open Go.RowKit Go.Lib in
theorem Tryz.strings_IndexAny_long (hv116 : ∀ w, (zeroValue 186).run Tryz.prog w = .ok (.agg (Array.replicate 256 (.bool false))) w) (s chars : ByteArray) (w : World) (h2 : 2 ≤ chars.size) (h8 : 8 < s.size) (hs : s.size < 4294967281) (hcs : chars.size < 4294967281) (hascii : ∀ (j : Nat) b, chars.data.toList[j]? = some b → b.toNat < 128) :
    Calls Tryz.prog 101 #[.string s, .string chars] w fun e w' => e = .returned (.int .i64 (Lib.indexAny s.data.toList chars.data.toList)) ∧ w' = ((w.alloc (.cells (Lib.setCells chars.data.toList) 186)).alloc (.cells (Lib.setCells chars.data.toList) 186)) := Any.strings_IndexAny_long Tryz.lays153 hv116 (by kernel_rfl) s chars w h2 h8 hs hcs hascii
open Go.RowKit Go.Lib in
theorem Tryz.strings_IndexAny (hv116 : ∀ w, (zeroValue 186).run Tryz.prog w = .ok (.agg (Array.replicate 256 (.bool false))) w) (s chars : ByteArray) (w : World) (hs : s.size < 4294967281) (hcs : chars.size < 4294967281) (has : ∀ (j : Nat) b, s.data.toList[j]? = some b → b.toNat < 128) (hac : ∀ (j : Nat) b, chars.data.toList[j]? = some b → b.toNat < 128) :
    Calls Tryz.prog 101 #[.string s, .string chars] w fun e w' => e = .returned (.int .i64 (Lib.indexAny s.data.toList chars.data.toList)) ∧ Below w.heap.size w w' := Any.strings_IndexAny Tryz.lays153 hv116 (by kernel_rfl) s chars w hs hcs has hac
def Tryz.lays109_ren : Go.Shelf.Ren := ⟨fun | 109 => 175 | n => n, fun | 31 => 76 | 9 => 9 | 3 => 3 | 0 => 0 | 4 => 4 | 20 => 20 | n => n, fun | n => n⟩
theorem Tryz.lays109 : Go.Proofs.Lays.n109 Tryz.prog Tryz.lays109_ren := {
  mixed := by kernel_rfl
  f109 := Tryz.func175.trans (congrArg some (by kernel_rfl))
  t0 := Tryz.underlying0
  a0 := Tryz.isAgg0
  z0 := Tryz.sizeOf0
  v0 := Tryz.zeroValue0
  t3 := Tryz.underlying3
  a3 := Tryz.isAgg3
  z3 := Tryz.sizeOf3
  v3 := Tryz.zeroValue3
  t4 := Tryz.underlying4
  a4 := Tryz.isAgg4
  z4 := Tryz.sizeOf4
  v4 := Tryz.zeroValue4
  t9 := Tryz.underlying9
  a9 := Tryz.isAgg9
  z9 := Tryz.sizeOf9
  v9 := Tryz.zeroValue9
  t31 := Tryz.underlying76
  a31 := Tryz.isAgg76
  z31 := Tryz.sizeOf76
  v31 := Tryz.zeroValue76 }
open Go.Lib in
theorem Tryz.slices_Index_string (b off n c : Nat) (zs : List ByteArray) (x : ByteArray) (w : World) (hz : n ≤ zs.length) (hbig : n ≤ 9223372036854775807) (hc : ∀ j, j < zs.length → w.cell? ⟨b, off + j, none⟩ = some (.string (zs.getD j ByteArray.empty))) :
    Calls Tryz.prog 175 #[.slice (some ⟨b, off, none⟩) n c, .string x] w fun e w' => e = .returned (.int .i64 (Lib.idxOfS (zs.take n) x)) ∧ w' = w := Any.slices_Index_string Tryz.lays109 b off n c zs x w hz hbig hc
open Go.Lib in
theorem Tryz.slices_Index_string_empty (a : Option Addr) (c : Nat) (x : ByteArray) (w : World) :
    Calls Tryz.prog 175 #[.slice a 0 c, .string x] w fun e w' => e = .returned (.int .i64 (Lib.idxOfS [] x)) ∧ w' = w := Any.slices_Index_string_empty Tryz.lays109 a c x w
end Go.Proofs
set_option linter.unusedVariables false
set_option linter.unusedSimpArgs false
namespace Go.Proofs.ShX
open Go.Shelf Go.RowKit Go.Lib
variable {P : Program} {ρ : Ren}
theorem below_draws {B : Nat} {a w : World} (h : Below B a w) (n : Nat) : Below B a (w.drewN n) := h.trans ⟨rfl, rfl, rfl, Nat.le_refl _, fun _ _ => rfl⟩
/-! ### What 'string(r)' is, beyond ASCII -/
theorem ofNat_high (n : Nat) : 128 ≤ (UInt8.ofNat (0x80 + n % 64)).toNat := by
  simp only [UInt8.toNat_ofNat']
  omega
theorem enc_parts (r : Int) (h0 : 128 ≤ r) : ∃ pre c, Utf8.encode r = ⟨(pre ++ [c]).toArray⟩ ∧ 1 ≤ pre.length ∧ pre.length ≤ 3 ∧ 128 ≤ c.toNat := by
  have hv : ¬ (if Utf8.valid r then r.toNat else Utf8.runeError) < 0x80 := by
    split
    · omega
    · simp [Utf8.runeError]
  unfold Utf8.encode
  dsimp only
  generalize (if Utf8.valid r then r.toNat else Utf8.runeError) = c at hv
  rw [if_neg hv]
  by_cases h1 : c < 0x800
  · rw [if_pos h1]
    exact ⟨[UInt8.ofNat (0xC0 + c / 64)], _, rfl, by simp, by simp, ofNat_high _⟩
  · rw [if_neg h1]
    by_cases h2 : c < 0x10000
    · rw [if_pos h2]
      exact ⟨[UInt8.ofNat (0xE0 + c / 4096), UInt8.ofNat (0x80 + c / 64 % 64)], _, rfl, by simp, by simp, ofNat_high _⟩
    · rw [if_neg h2]
      exact ⟨[UInt8.ofNat (0xF0 + c / 262144), UInt8.ofNat (0x80 + c / 4096 % 64), UInt8.ofNat (0x80 + c / 64 % 64)], _, rfl, by simp, by simp, ofNat_high _⟩
theorem enc_at (r : Int) (h0 : 128 ≤ r) : ∃ (n : Nat) (c : UInt8), (Utf8.encode r).size = n + 1 ∧ 1 ≤ n ∧ n ≤ 3 ∧ 128 ≤ c.toNat ∧ ∀ h : n < (Utf8.encode r).size, (Utf8.encode r)[n]'h = c := by
  obtain ⟨pre, c, he, h1, h3, hc⟩ := enc_parts r h0
  refine ⟨pre.length, c, ?_, h1, h3, hc, ?_⟩
  · rw [he, Lib.size_mk]; simp
  · intro h
    have e := Lib.data_getElem? (Utf8.encode r) pre.length h
    have e2 : (Utf8.encode r).data.toList[pre.length]? = some c := by rw [he]; simp
    rw [e2] at e
    exact (Option.some.inj e).symm
theorem run_rune_string {P : Program} {a b : TypeId} {k : IntKind} (r : Int) (w : World) (ha : P.underlying a = some (.int k)) (hb : P.underlying b = some .string) : (convert a b (.int k r)).run P w = .ok (.string (Utf8.encode r)) w := by
  simp [convert, run_underlying ha, run_underlying hb, Conv.intToString]
theorem enc_conv {P : Program} {a b : TypeId} {k : IntKind} (r : Int) (h0 : 128 ≤ r) (ha : P.underlying a = some (.int k)) (hb : P.underlying b = some .string) : ∃ (rs : ByteArray) (n : Nat) (c : UInt8), rs.size = n + 1 ∧ 1 ≤ n ∧ n ≤ 3 ∧ 128 ≤ c.toNat ∧ (∀ h : n < rs.size, rs[n]'h = c) ∧ ∀ w, (convert a b (.int k r)).run P w = .ok (.string rs) w := by
  obtain ⟨n, c, h1, h2, h3, h4, h5⟩ := enc_at r h0
  exact ⟨_, n, c, h1, h2, h3, h4, h5, fun w => run_rune_string r w ha hb⟩
theorem indexByte_high : ∀ (l : List UInt8) (c : UInt8), (∀ (j : Nat) b, l[j]? = some b → b.toNat < 128) → 128 ≤ c.toNat → indexByte l c = -1
  | [], _, _, _ => rfl
  | b :: l, c, h, hc => by
    have hb : b.toNat < 128 := h 0 b rfl
    have ih := indexByte_high l c (fun j y hy => h (j + 1) y (by simpa using hy)) hc
    have hne : (b == c) = false := by
      rw [beq_eq_false_iff_ne]
      rintro rfl
      omega
    rw [indexByte, hne, ih]
    rfl
theorem ascii_extract {s : ByteArray} (h : ∀ (j : Nat) b, s.data.toList[j]? = some b → b.toNat < 128) (a b : Nat) : ∀ (j : Nat) c, (s.extract a b).data.toList[j]? = some c → c.toNat < 128 := fun j c hj => by
  rw [Lib.extract_data] at hj
  exact h (a + j) c (by
    rw [List.getElem?_take] at hj
    split at hj
    · rw [List.getElem?_drop] at hj; exact hj
    · cases hj)

set_option maxHeartbeats 2000000 in
set_option maxRecDepth 1000000 in
theorem xIndexRune_high (L : Lays.n152 P ρ) (s : ByteArray) (r : Int) (w : World) (h0 : 128 ≤ r) (hr : r ≤ 2147483647) (hs : s.size ≤ 1000) (has : ∀ (j : Nat) b, s.data.toList[j]? = some b → b.toNat < 128) :
    Calls P (ρ.f 152) #[.string s, .int .i32 r] w fun e w' => e = .returned (.int .i64 (-1)) ∧ Below w.heap.size w w' := by
  have HA : Aside (∀ (j : Nat) b, s.data.toList[j]? = some b → b.toNat < 128) := has
  clear has
  have g0 : decide (r < 128) = false := decide_eq_false (by omega)
  have g1 : decide (0 ≤ r) = true := decide_eq_true (by omega)
  have mixed := L.mixed
  have t0 := L.t0; have a0 := L.a0; have z0 := L.z0; have v0 := L.v0
  have t3 := L.t3; have a3 := L.a3; have z3 := L.z3; have v3 := L.v3
  have t4 := L.t4; have a4 := L.a4; have z4 := L.z4; have v4 := L.v4
  have t5 := L.t5; have a5 := L.a5; have z5 := L.z5; have v5 := L.v5
  have t9 := L.t9; have a9 := L.a9; have z9 := L.z9; have v9 := L.v9
  have t21 := L.t21; have a21 := L.a21; have z21 := L.z21; have v21 := L.v21
  have e137 : ∀ args w, (callFunc (ρ.f 137) args).run P w = .ok (.enter (ρ.f 137) args) w := enters_of L.f137 (by kernel_rfl) rfl
  have e119 : ∀ args w, (callFunc (ρ.f 119) args).run P w = .ok (.enter (ρ.f 119) args) w := enters_of L.f119 (by kernel_rfl) rfl
  by_cases hE : r = 65533
  · subst hE
    go_enter L.f152, Body.n152_ntmps ρ
    go_wp2
    go_loopg [176, 177, 178, 179, 5, 6, 180, 181] s.size (fun g _ _ _ _ _ _ _ _ wx => ∃ i : Nat, i + g = s.size ∧ wx = w.iter s i)
    case atStart => exact ⟨0, by omega, rfl⟩
    case round =>
      obtain ⟨i, hig, rfl⟩ := hrel
      cases gk with
      | zero =>
        obtain rfl : i = s.size := by omega
        have hnx := run_next_end (P := P) w s s.size
        go_wp2
        go_ret
        exact ⟨rfl, (Below.refl _ _).alloc (Nat.le_refl _) _⟩
      | succ g =>
        have hi : i < s.size := by omega
        obtain ⟨x, hx⟩ : ∃ x : UInt8, s[i]'hi = x := ⟨_, rfl⟩
        have hxl : s.data.toList[i]? = some x := by rw [← hx]; exact Lib.data_getElem? s i hi
        have hx128 : x.toNat < 128 := HA.out i x hxl
        have hnx := fun ty => run_next_ascii (P := P) w s i ty hi (by rw [hx]; exact hx128)
        rw [hx] at hnx
        clear hxl hx
        have g3 : ((x.toNat : Int) == 65533) = false := by simp; omega
        go_wp2
        go_roundg g
        case measure => omega
        case rel => exact ⟨i + 1, by omega, rfl⟩
  · have g2 : (r == 65533) = false := by simpa using hE
    cases hv : Lib.validRune r
    · go_enter L.f152, Body.n152_ntmps ρ
      go_wp2_with (go_at_fn (ρ.f 119); refine (Any.utf8_ValidRune { L with } _ _).mono ?_; rintro e w' ⟨rfl, hw⟩; rw [hw, hv])
      go_ret
      exact ⟨rfl, Below.refl _ _⟩
    · obtain ⟨rs, n, c, hsz, hn1, hn3, hc, hat, hconv⟩ := enc_conv (P := P) (k := .i32) r h0 L.t21 L.t9
      by_cases hlt : n < s.size
      · have hltz : (n : Int) < (s.size : Int) := by omega
        obtain ⟨x, hx⟩ : ∃ x : UInt8, s[n]'hlt = x := ⟨_, rfl⟩
        have hx128 : x.toNat < 128 := HA.out n x (by rw [← hx]; exact Lib.data_getElem? s n hlt)
        have g3 : ((x.toNat : Int) != (c.toNat : Int)) = true := by simp; omega
        have HRN : Hid (n < rs.size) := Lib.hid (by omega)
        have c1 : (0 : Int) ≤ (n : Int) + 1 := by omega
        have c2 : (n : Int) + 1 ≤ (s.size : Int) := by omega
        have hib : Lib.indexByte (s.extract (n + 1) s.size).data.toList c = -1 := indexByte_high _ _ (ascii_extract HA.out _ _) hc
        rw [Lib.extract_data] at hib
        go_enter L.f152, Body.n152_ntmps ρ
        go_wp2_with (go_at_fn (ρ.f 119); refine (Any.utf8_ValidRune { L with } _ _).mono ?_; rintro e w' ⟨rfl, hw⟩; rw [hw, hv])
        go_step3
        go_wp2
        refine wp_loop_rounds 1 ?_
        rw [rounds_succ]
        go_wp2
        go_step3
        go_wp2
        clear hsz
        have hrn := HRN.out
        have hrz : (n : Int) < (rs.size : Int) := by omega
        go_quiet_o (fail)
        go_wp2
        have hw1 : IntKind.i64.wrap ((n : Int) + 1) = (n : Int) + 1 := IntWalk.i64_in _ (by omega)
        have hw2 : ((n : Int) + 1).toNat = n + 1 := by omega
        go_quiet_o ((go_at_fn (ρ.f 137); refine (Any.strings_IndexByte { L with } _ _ _).mono ?_; rintro e w' ⟨rfl, rfl⟩; exact ⟨rfl, _, rfl⟩))
        clear hw1 hw2
        go_wp2
        rw [Exit.noGoto_ret]
        try simp only [Exit.inBlock, Exit.noGoto_ret, Exit.then]
        go_ret
        exact ⟨rfl, below_draws (Below.refl _ _) _⟩
      · have hltz : ¬ (n : Int) < (s.size : Int) := by omega
        go_enter L.f152, Body.n152_ntmps ρ
        go_wp2_with (go_at_fn (ρ.f 119); refine (Any.utf8_ValidRune { L with } _ _).mono ?_; rintro e w' ⟨rfl, hw⟩; rw [hw, hv])
        go_step3
        go_wp2
        refine wp_loop_rounds 1 ?_
        rw [rounds_succ]
        go_wp2
        rw [Exit.noGoto_ret]
        go_ret
        exact ⟨rfl, Below.refl _ _⟩

/-! ### IndexAny, of any text -/
theorem decode_span (s : ByteArray) (pos : Nat) (h : pos < s.size) (ha : 128 ≤ (s[pos]'h).toNat) : 1 ≤ (Utf8.decode s pos).2 ∧ pos + (Utf8.decode s pos).2 ≤ s.size ∧ ∀ (j : Nat) b, j < (Utf8.decode s pos).2 → s.data.toList[pos + j]? = some b → 128 ≤ b.toNat := by
  have hn : ¬ (s[pos]'h).toNat < 128 := by omega
  have at0 : ∀ (k : Nat) b, s.data.toList[pos + k]? = some b → (s.get! (pos + k)) = b := fun k b hb => by
    have hk : pos + k < s.size := by
      have := List.getElem?_eq_some_iff.1 hb
      obtain ⟨h1, _⟩ := this
      rw [Lib.size_eq]; exact h1
    have e := Lib.data_getElem? s (pos + k) hk
    rw [e] at hb
    have := get_at s (pos + k) hk
    simp only [Nat.add_zero] at this
    rw [this]
    exact Option.some.inj hb
  have b0 : ∀ b, s.data.toList[pos + 0]? = some b → 128 ≤ b.toNat := fun b hb => by
    have e := Lib.data_getElem? s pos h
    rw [Nat.add_zero, e] at hb
    cases hb
    exact ha
  have bk : ∀ (k : Nat) b, (pos + k < s.size && (s.get! (pos + k)).toNat / 64 == 2) = true → s.data.toList[pos + k]? = some b → 128 ≤ b.toNat := fun k b hc hb => by
    rw [at0 k b hb] at hc
    simp at hc
    omega
  have lt : ∀ (k : Nat), (pos + k < s.size && (s.get! (pos + k)).toNat / 64 == 2) = true → pos + k < s.size := fun k hc => by simp at hc; exact hc.1
  have one : ∀ (j : Nat) b, j < 1 → s.data.toList[pos + j]? = some b → 128 ≤ b.toNat := fun j b hj hb => by
    obtain rfl : j = 0 := by omega
    exact b0 b hb
  have base : 1 ≤ 1 ∧ pos + 1 ≤ s.size ∧ ∀ (j : Nat) b, j < 1 → s.data.toList[pos + j]? = some b → 128 ≤ b.toNat := ⟨Nat.le_refl _, by omega, one⟩
  simp only [Utf8.decode, get_at s pos h, hn, if_false]
  by_cases c2 : ((s[pos]'h).toNat / 32 == 6 && (pos + 1 < s.size && (s.get! (pos + 1)).toNat / 64 == 2)) = true
  · rw [if_pos c2]
    have c21 : (pos + 1 < s.size && (s.get! (pos + 1)).toNat / 64 == 2) = true := ((Bool.and_eq_true _ _).mp c2).2
    split
    · refine ⟨by omega, by have := lt 1 c21; omega, fun j b hj hb => ?_⟩
      rcases (by omega : j = 0 ∨ j = 1) with rfl | rfl
      · exact b0 b hb
      · exact bk 1 b c21 hb
    · exact base
  · rw [if_neg c2]
    by_cases c3 : ((s[pos]'h).toNat / 16 == 14 && (pos + 1 < s.size && (s.get! (pos + 1)).toNat / 64 == 2) && (pos + 2 < s.size && (s.get! (pos + 2)).toNat / 64 == 2)) = true
    · rw [if_pos c3]
      have c32 := ((Bool.and_eq_true _ _).mp c3).2
      have c31 := ((Bool.and_eq_true _ _).mp ((Bool.and_eq_true _ _).mp c3).1).2
      split
      · refine ⟨by omega, by have := lt 2 c32; omega, fun j b hj hb => ?_⟩
        rcases (by omega : j = 0 ∨ j = 1 ∨ j = 2) with rfl | rfl | rfl
        · exact b0 b hb
        · exact bk 1 b c31 hb
        · exact bk 2 b c32 hb
      · exact base
    · rw [if_neg c3]
      by_cases c4 : ((s[pos]'h).toNat / 8 == 30 && (pos + 1 < s.size && (s.get! (pos + 1)).toNat / 64 == 2) && (pos + 2 < s.size && (s.get! (pos + 2)).toNat / 64 == 2) && (pos + 3 < s.size && (s.get! (pos + 3)).toNat / 64 == 2)) = true
      · rw [if_pos c4]
        have c43 := ((Bool.and_eq_true _ _).mp c4).2
        have c4' := ((Bool.and_eq_true _ _).mp c4).1
        have c42 := ((Bool.and_eq_true _ _).mp c4').2
        have c41 := ((Bool.and_eq_true _ _).mp ((Bool.and_eq_true _ _).mp c4').1).2
        split
        · refine ⟨by omega, by have := lt 3 c43; omega, fun j b hj hb => ?_⟩
          rcases (by omega : j = 0 ∨ j = 1 ∨ j = 2 ∨ j = 3) with rfl | rfl | rfl | rfl
          · exact b0 b hb
          · exact bk 1 b c41 hb
          · exact bk 2 b c42 hb
          · exact bk 3 b c43 hb
        · exact base
      · rw [if_neg c4]
        exact base
theorem noAny_span {s chars : List UInt8} {i d : Nat} (h : NoAny s chars i) (hac : ∀ (j : Nat) b, chars[j]? = some b → b.toNat < 128) (hd : ∀ (j : Nat) b, j < d → s[i + j]? = some b → 128 ≤ b.toNat) : NoAny s chars (i + d) := fun j b hj hb => by
  by_cases e : j < i
  · exact h j b e hb
  · have h2 := hd (j - i) b (by omega) (by rw [show i + (j - i) = j by omega]; exact hb)
    cases hc : chars.contains b
    · rfl
    · have := List.contains_iff_mem.1 hc
      obtain ⟨k, hk⟩ := List.getElem?_of_mem this
      have := hac k b hk
      omega
set_option maxHeartbeats 8000000 in
set_option maxRecDepth 1000000 in
theorem xIndexAny_short (L : Lays.n153 P ρ) (s chars : ByteArray) (w : World) (h2 : 2 ≤ chars.size) (hcs : chars.size ≤ 1000) (h8 : s.size ≤ 8) (hac : ∀ (j : Nat) b, chars.data.toList[j]? = some b → b.toNat < 128) :
    Calls P (ρ.f 153) #[.string s, .string chars] w fun e w' => e = .returned (.int .i64 (Lib.indexAny s.data.toList chars.data.toList)) ∧ Below w.heap.size w w' := by
  have HA : Aside (∀ (j : Nat) b, chars.data.toList[j]? = some b → b.toNat < 128) := hac
  clear hac
  have hemp : chars.toList.isEmpty = false := by
    rw [Lib.toList_data]
    cases h : chars.data.toList with
    | nil => have := Lib.size_eq chars; rw [h, List.length_nil] at this; omega
    | cons _ _ => rfl
  have hn1 : ((chars.size : Int) == 1) = false := beq_eq_false_iff_ne.2 (by omega)
  have h8z : decide ((8 : Int) < (s.size : Int)) = false := decide_eq_false (by omega)
  have t3 := L.t3; have a3 := L.a3; have z3 := L.z3; have v3 := L.v3
  have t4 := L.t4; have a4 := L.a4; have z4 := L.z4; have v4 := L.v4
  have t5 := L.t5; have a5 := L.a5; have z5 := L.z5; have v5 := L.v5
  have t9 := L.t9; have a9 := L.a9; have z9 := L.z9; have v9 := L.v9
  have t21 := L.t21; have a21 := L.a21; have z21 := L.z21; have v21 := L.v21
  have e152 : ∀ args w, (callFunc (ρ.f 152) args).run P w = .ok (.enter (ρ.f 152) args) w := enters_of L.f152 (by kernel_rfl) rfl
  have e226 : ∀ args w, (callFunc (ρ.f 226) args).run P w = .ok (.enter (ρ.f 226) args) w := enters_of L.f226 (by kernel_rfl) rfl
  go_enter L.f153, Body.n153_ntmps ρ
  go_wp2_with (go_at_fn (ρ.f 226); refine (Any.strings_shouldUseASCIISet { L with } _ _).mono ?_; rintro e w' ⟨rfl, hw⟩; rw [hw, h8z])
  go_loopg [9, 10] s.size (fun g _ _ wx => ∃ i : Nat, i + g = s.size ∧ wx.heap[w.heap.size]? = some (.stringIter s i) ∧ Below w.heap.size w wx ∧ Lib.NoAny s.data.toList chars.data.toList i)
  case atStart => exact ⟨0, by omega, World.iter_heap _ _ _, (Below.refl _ _).alloc (Nat.le_refl _) _, Lib.NoAny.zero _ _⟩
  case round =>
    obtain ⟨i, hig, hit, hbel, hno⟩ := hrel
    have HN : Aside (Lib.NoAny s.data.toList chars.data.toList i) := hno
    clear hno
    cases gk with
    | zero =>
      obtain rfl : i = s.size := by omega
      have hnx := fun ty => run_next_end_at (P := P) wr w.heap.size s s.size ty hit (by omega)
      clear hit
      go_wp2
      go_ret
      exact ⟨by rw [Lib.indexAny_none (by rw [← Lib.size_eq]; exact HN.out)]; rfl, hbel⟩
    | succ g =>
      have hi : i < s.size := by omega
      obtain ⟨x, hx⟩ : ∃ x : UInt8, s[i]'hi = x := ⟨_, rfl⟩
      have hxl : s.data.toList[i]? = some x := by rw [← hx]; exact Lib.data_getElem? s i hi
      have Hx : Aside (s.data.toList[i]? = some x) := hxl
      clear hxl
      by_cases hx128 : x.toNat < 128
      · have hnx := fun ty => run_next_ascii_at (P := P) wr w.heap.size s i ty hit hi (by rw [hx]; exact hx128)
        rw [hx] at hnx
        have HW : Aside ((wr.iterAt w.heap.size s (i + 1)).heap[w.heap.size]? = some (.stringIter s (i + 1)) ∧ Below w.heap.size w (wr.iterAt w.heap.size s (i + 1))) := ⟨iterAt_heap _ _ _ _ _ hit, below_iterAt hbel (Nat.le_refl _) _ _⟩
        clear hx hit hbel
        have hcon := Lib.contains_iff_indexByte chars.data.toList x
        have hback : ((x.toNat : Int)).toNat.toUInt8 = x := by simp
        cases hin : chars.data.toList.contains x
        · rw [hin] at hcon
          have hlt : ¬ ((0 : Int) ≤ Lib.indexByte chars.data.toList x) := of_decide_eq_false hcon.symm
          clear hcon
          go_wp2_with (go_at_fn (ρ.f 152); refine (Any.strings_IndexRune_ascii { L with } _ _ _ (by omega) (by omega)).mono ?_; rintro e w' ⟨rfl, hw⟩; rw [hw, hback])
          go_roundg g
          case measure => omega
          case rel => exact ⟨i + 1, by omega, HW.out.1, HW.out.2, HN.out.succ Hx.out hin⟩
        · rw [hin] at hcon
          have hge : (0 : Int) ≤ Lib.indexByte chars.data.toList x := of_decide_eq_true hcon.symm
          clear hcon
          go_wp2_with (go_at_fn (ρ.f 152); refine (Any.strings_IndexRune_ascii { L with } _ _ _ (by omega) (by omega)).mono ?_; rintro e w' ⟨rfl, hw⟩; rw [hw, hback])
          go_ret
          exact ⟨by rw [Lib.indexAny_hit HN.out Hx.out hin]; rfl, HW.out.2⟩
      · have hsp := decode_span s i hi (by rw [hx]; omega)
        have hdh := decode_high s i hi (by rw [hx]; omega)
        have hdl := decode_le s i
        have hnx := fun ty => run_next_any_at (P := P) wr w.heap.size s i ty hit hi
        obtain ⟨r, hr⟩ : ∃ r, r = (Utf8.decode s i).1 := ⟨_, rfl⟩
        obtain ⟨d, hd⟩ : ∃ d, d = (Utf8.decode s i).2 := ⟨_, rfl⟩
        rw [← hd] at hsp
        rw [← hr] at hdh hdl
        simp only [← hr, ← hd] at hnx
        have HW : Aside ((wr.iterAt w.heap.size s (i + d)).heap[w.heap.size]? = some (.stringIter s (i + d)) ∧ Below w.heap.size w (wr.iterAt w.heap.size s (i + d)) ∧ Lib.NoAny s.data.toList chars.data.toList (i + d) ∧ i + d ≤ s.size ∧ 1 ≤ d) := ⟨iterAt_heap _ _ _ _ _ hit, below_iterAt hbel (Nat.le_refl _) _ _, noAny_span HN.out HA.out hsp.2.2, hsp.2.1, hsp.1⟩
        obtain ⟨hdh, _⟩ := hdh
        clear hx hit hbel hsp hr hd
        go_wp2_with (go_at_fn (ρ.f 152); refine (xIndexRune_high { L with } _ _ _ (by omega) (by omega) hcs HA.out).mono ?_; rintro e w' ⟨rfl, hbw⟩)
        have hh := HW.out
        go_roundg (s.size - (i + d))
        case measure => omega
        case rel => exact ⟨i + d, by omega, (hbw.block w.heap.size (Array.getElem?_eq_some_iff.1 hh.1).1).trans hh.1, hh.2.1.trans (hbw.mono hh.2.1.size), hh.2.2.1⟩

theorem xIndexAny (L : Lays.n153 P ρ) (h116 : (P.info? (ρ.t 116)).map (fun i => (i.zero, i.size)) = some (some (.agg (Array.replicate 256 (.bool false))), 256)) (s chars : ByteArray) (w : World) (hs : s.size < 4294967281) (h2 : 2 ≤ chars.size) (hcs : chars.size ≤ 1000) (hac : ∀ (j : Nat) b, chars.data.toList[j]? = some b → b.toNat < 128) :
    Calls P (ρ.f 153) #[.string s, .string chars] w fun e w' => e = .returned (.int .i64 (Lib.indexAny s.data.toList chars.data.toList)) ∧ Below w.heap.size w w' := by
  by_cases h8 : s.size ≤ 8
  · exact xIndexAny_short L s chars w h2 hcs h8 hac
  · refine (Any.strings_IndexAny_long L (zero_of_info h116).1 (zero_of_info h116).2 s chars w h2 (by omega) hs (by omega) hac).mono fun e w' ⟨h1, h2⟩ => ⟨h1, ?_⟩
    rw [h2]
    exact ((Below.refl _ _).alloc (Nat.le_refl _) _).alloc (by simp) _
/-! ### Cut, Split at one byte: no package variable is read -/
set_option maxHeartbeats 2000000 in
set_option maxRecDepth 100000 in
theorem xstringslite_Cut_core (L : Lays.n220 P ρ) (s sep : ByteArray) (w : World) (hs : s.size < 4294967281) (hIx : ∀ w, Calls P (ρ.f 219) #[.string s, .string sep] w fun e w' => e = .returned (.int .i64 (Lib.index s.data.toList sep.data.toList)) ∧ w' = w) :
    Calls P (ρ.f 220) #[.string s, .string sep] w fun e w' => e = .returned (.tuple #[.string ⟨(Lib.cut s.data.toList sep.data.toList).1.toArray⟩, .string ⟨(Lib.cut s.data.toList sep.data.toList).2.1.toArray⟩, .bool (Lib.cut s.data.toList sep.data.toList).2.2]) ∧ ∃ n, w' = w.drewN n := by
  rcases Lib.indexB_cases s sep with hix | ⟨i, hix, hroom⟩
  · obtain ⟨e1, e2, e3⟩ := Lib.cutB_miss s sep hix
    rw [e1, e2, e3]
    have t3 := L.t3; have t4 := L.t4; have t9 := L.t9
    have a3 : ∀ w, (isAgg (ρ.t 3)).run P w = .ok false w := run_isAgg_plain L.t3 rfl; have a4 : ∀ w, (isAgg (ρ.t 4)).run P w = .ok false w := run_isAgg_plain L.t4 rfl; have a9 : ∀ w, (isAgg (ρ.t 9)).run P w = .ok false w := run_isAgg_plain L.t9 rfl
    have e219 : ∀ args w, (callFunc (ρ.f 219) args).run P w = .ok (.enter (ρ.f 219) args) w := enters_of L.f219 (by kernel_rfl) rfl
    have mixed := L.mixed; have z3 := L.z3; have v3 := L.v3; have z4 := L.z4; have v4 := L.v4; have z9 := L.z9; have v9 := L.v9
    go_enter L.f220, Body.n220_ntmps ρ
    go_wp2_with (go_at_fn (ρ.f 219); refine (hIx _).mono ?_; rintro e w' ⟨rfl, rfl⟩; rw [show Lib.index s.data.toList sep.data.toList = _ from hix])
    go_ret3
    exact ⟨rfl, 0, rfl⟩
  · obtain ⟨e1, e2, e3⟩ := Lib.cutB_hit s sep i hix
    rw [e1, e2, e3]
    have c1 : (0 : Int) ≤ ↑i := by omega
    have c2 : (↑i : Int) ≤ ↑s.size := by omega
    have c3 : (0 : Int) ≤ ↑i + ↑sep.size := by omega
    have c4 : (↑i + ↑sep.size : Int) ≤ ↑s.size := by omega
    have t3 := L.t3; have t4 := L.t4; have t9 := L.t9
    have a3 : ∀ w, (isAgg (ρ.t 3)).run P w = .ok false w := run_isAgg_plain L.t3 rfl; have a4 : ∀ w, (isAgg (ρ.t 4)).run P w = .ok false w := run_isAgg_plain L.t4 rfl; have a9 : ∀ w, (isAgg (ρ.t 9)).run P w = .ok false w := run_isAgg_plain L.t9 rfl
    have e219 : ∀ args w, (callFunc (ρ.f 219) args).run P w = .ok (.enter (ρ.f 219) args) w := enters_of L.f219 (by kernel_rfl) rfl
    have mixed := L.mixed; have z3 := L.z3; have v3 := L.v3; have z4 := L.z4; have v4 := L.v4; have z9 := L.z9; have v9 := L.v9
    go_enter L.f220, Body.n220_ntmps ρ
    go_wp2_with (go_at_fn (ρ.f 219); refine (hIx _).mono ?_; rintro e w' ⟨rfl, rfl⟩; rw [show Lib.index s.data.toList sep.data.toList = _ from hix])
    go_region_o
    go_wp2
    go_ret3
    exact ⟨rfl, 1, rfl⟩
set_option maxHeartbeats 1000000 in
theorem xstrings_Cut_core (L : Lays.n145 P ρ) (s sep : ByteArray) (w : World) (hs : s.size < 4294967281) (hIx : ∀ w, Calls P (ρ.f 219) #[.string s, .string sep] w fun e w' => e = .returned (.int .i64 (Lib.index s.data.toList sep.data.toList)) ∧ w' = w) :
    Calls P (ρ.f 145) #[.string s, .string sep] w fun e w' => e = .returned (.tuple #[.string ⟨(Lib.cut s.data.toList sep.data.toList).1.toArray⟩, .string ⟨(Lib.cut s.data.toList sep.data.toList).2.1.toArray⟩, .bool (Lib.cut s.data.toList sep.data.toList).2.2]) ∧ ∃ n, w' = w.drewN n := by
  have t4 := L.t4; have t9 := L.t9; have t59 := L.t59
  have a4 : ∀ w, (isAgg (ρ.t 4)).run P w = .ok false w := run_isAgg_plain L.t4 rfl; have a9 : ∀ w, (isAgg (ρ.t 9)).run P w = .ok false w := run_isAgg_plain L.t9 rfl; have a59 : ∀ w, (isAgg (ρ.t 59)).run P w = .ok false w := run_isAgg_plain L.t59 rfl
  have e220 : ∀ args w, (callFunc (ρ.f 220) args).run P w = .ok (.enter (ρ.f 220) args) w := enters_of L.f220 (by kernel_rfl) rfl
  have mixed := L.mixed; have z4 := L.z4; have v4 := L.v4; have z9 := L.z9; have v9 := L.v9; have z59 := L.z59; have v59 := L.v59
  go_enter L.f145, Body.n145_ntmps ρ
  go_wp2_with (go_at_fn (ρ.f 220); refine (xstringslite_Cut_core { L with } _ _ _ hs hIx).mono ?_; rintro e w' ⟨rfl, n, rfl⟩)
  go_ret3
  exact ⟨rfl, n, rfl⟩
theorem xCut_one (L : Lays.n145 P ρ) (s : ByteArray) (c : UInt8) (w : World) (hs : s.size < 4294967281) :
    Calls P (ρ.f 145) #[.string s, .string ⟨#[c]⟩] w fun e w' => e = .returned (.tuple #[.string ⟨(Lib.cut s.data.toList [c]).1.toArray⟩, .string ⟨(Lib.cut s.data.toList [c]).2.1.toArray⟩, .bool (Lib.cut s.data.toList [c]).2.2]) ∧ ∃ n, w' = w.drewN n :=
  xstrings_Cut_core L s ⟨#[c]⟩ w hs (fun w => (Any.stringslite_Index_one { L with } s c w).mono fun e1 w1 ⟨h1, h2⟩ => ⟨by
    rw [h1]
    show _ = Ending.returned (Value.int .i64 (Lib.index s.data.toList [c]))
    rw [Lib.index_one], h2⟩)
set_option maxHeartbeats 1000000 in
theorem xSplit_one (L : LaysM.n146 P ρ) (s : ByteArray) (c : UInt8) (w : World) (hs : s.size < 4294967281) :
    Calls P (ρ.f 146) #[.string s, .string ⟨#[c]⟩] w fun e w' =>
      e = .returned (.slice (some ⟨w.heap.size, 0, none⟩) (Lib.countB s ⟨#[c]⟩ + 1) (Lib.countB s ⟨#[c]⟩ + 1)) ∧ w' = w.alloc (.cells ((Lib.splitB ⟨#[c]⟩ 0 (Lib.countB s ⟨#[c]⟩) s).map Value.string).toArray (ρ.t 9)) := by
  have h1 : 1 ≤ (⟨#[c]⟩ : ByteArray).size := Nat.le_refl _
  have hle := Lib.countB_le ⟨#[c]⟩ h1 s.size s (Nat.le_refl _)
  have hlen := Lib.splitB_all ⟨#[c]⟩ h1 0 _ s rfl
  have cc := Any.strings_genSplit_core { L with } L.i9 s ⟨#[c]⟩ 0 (-1) (Lib.countB s ⟨#[c]⟩ + 1) w hs h1 (Nat.zero_le _)
    (fun x cs hx => (Any.strings_Index_one { L with } x c _).mono fun e1 w1 ⟨h1, h2⟩ => ⟨by
      rw [h1]
      show _ = Ending.returned (Value.int .i64 (Lib.index x.data.toList [c]))
      rw [Lib.index_one], h2⟩)
    ((Any.strings_Count_one { L with } s c w).mono fun e1 w1 ⟨h1, h2⟩ => ⟨by
      rw [h1]
      show _ = Ending.returned (Value.int .i64 ((Lib.count s.data.toList [c] : Nat) : Int))
      rw [Lib.count_one]; rfl, h2⟩)
    (by decide) (by decide) (by rw [if_pos (by decide)]; omega)
  rw [Nat.add_sub_cancel, hlen] at cc
  have e2 : Lib.cellsOf (Lib.splitB ⟨#[c]⟩ 0 (Lib.countB s ⟨#[c]⟩) s) (Lib.countB s ⟨#[c]⟩ + 1) = ((Lib.splitB ⟨#[c]⟩ 0 (Lib.countB s ⟨#[c]⟩) s).map Value.string).toArray := by rw [← hlen]; exact Lib.cellsOf_full _
  rw [e2] at cc
  clear e2 hlen hle
  have t3 := L.t3; have t9 := L.t9; have t31 := L.t31
  have a3 := L.a3; have a9 := L.a9; have a31 := L.a31
  have z3 := L.z3; have v3 := L.v3; have z9 := L.z9; have v9 := L.v9; have z31 := L.z31; have v31 := L.v31
  have e221 : ∀ args w, (callFunc (ρ.f 221) args).run P w = .ok (.enter (ρ.f 221) args) w := enters_of L.f221 (by kernel_rfl) rfl
  go_enter L.f146, Body.n146_ntmps ρ
  go_wp2_with (go_at_fn (ρ.f 221); refine cc.mono ?_; rintro e w' ⟨rfl, hw⟩; rw [hw])
  go_ret
  exact ⟨rfl, rfl⟩
end Go.Proofs.ShX
