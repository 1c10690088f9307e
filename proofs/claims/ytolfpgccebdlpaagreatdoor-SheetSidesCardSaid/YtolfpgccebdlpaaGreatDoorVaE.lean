/- strconv.FormatInt at base 16, of numbers of seven digits whose first one is 1: its contract, proved by walking its text; no condition beside those that each theorem states. -/
import Derived.Test.YtolfpgccebdlpaaGreatDoorVaB
import Derived.Lib.VarintBits
import Derived.Maps.OwnOps
import Derived.Maps.OwnSet
import Derived.Maps.Views
import Derived.BigQuiet
import Derived.Test.YtolfpgccebdlpaaGreatDoorScE
import Derived.Test.YtolfpgccebdlpaaGreatDoorScA
set_option linter.unusedVariables false
set_option linter.unusedSimpArgs false
namespace Go.Proofs.Val
open Go.RowKit Go.Proofs Go.Proofs.YtolfpgccebdlpaaGreatDoorW.PrintWords
theorem tz16 (w : World) (hT : Tbs w) : Calls Tryz.prog 203 #[.int .u64 16] w fun e w' => e = .returned (.int .i64 4) ∧ w' = w := by
  have hc := hT.tz
  have h64 : ∀ w, w.cell? ⟨7, 15, none⟩ = some (.int .u8 4) → Calls Tryz.prog 213 #[.int .u64 16] w fun e w' => e = .returned (.int .i64 4) ∧ w' = w := by
    intro w hc
    have hv : IntKind.u64.wrap (bits BinOp.and IntKind.u64 16 (IntKind.u64.wrap (-16)) * 285870213051353865) / 288230376151711744 = 15 := by decide
    go_enter Tryz.func213, Tryz.ntmps213
    go_wp2
    go_ret
    exact ⟨rfl, rfl⟩
  have h := h64 w hc
  go_enter Tryz.func203, Tryz.ntmps203
  go_wp2_with (go_at_call 213; refine (h).mono ?_; rintro e w' ⟨rfl, rfl⟩)
  go_ret
  exact ⟨rfl, rfl⟩
theorem pow16 (w : World) : Calls Tryz.prog 202 #[.int .i64 16] w fun e w' => e = .returned (.bool true) ∧ w' = w := by
  have hb0 : bits BinOp.and IntKind.i64 16 15 = 0 := by decide
  go_enter Tryz.func202, Tryz.ntmps202
  go_wp2
  go_ret
  exact ⟨rfl, rfl⟩
def hexD (v : Nat) : UInt8 := UInt8.ofNat (if v < 10 then 48 + v else 87 + v)
theorem and15 (x : Int) (h0 : 0 ≤ x) (h1 : x < 18446744073709551616) : bits .and .u64 x 15 = x % 16 := bits_mask .u64 64 (by decide) wraps_u64 4 (by decide) x h0 h1
def hv (U k j : Nat) : Int := if 65 - k ≤ j then ((hexD (U / 16 ^ (64 - j) % 16)).toNat : Int) else 0
def HxAt (U B : Nat) (w wr : World) (k : Nat) : Prop := (∀ j, j < 65 → wr.cell? ⟨B, j, none⟩ = some (.int .u8 (hv U k j)) ∧ wr.frozen? ⟨B, j, none⟩ = false) ∧ Below w.heap.size w wr
theorem HxAt.put {U B k : Nat} {w wr : World} (h : HxAt U B w wr k) (hB : w.heap.size ≤ B) (hk : k < 65) {v : Int} (hv' : v = ((hexD (U / 16 ^ k % 16)).toNat : Int)) : HxAt U B w (wr.setCell ⟨B, 64 - k, none⟩ (.int .u8 v)) (k + 1) := by
  refine ⟨fun j hj => ⟨?_, by rw [World.frozen?_setCell]; exact (h.1 j hj).2⟩, h.2.setCell (p := ⟨B, 64 - k, none⟩) hB _⟩
  by_cases e : j = 64 - k
  · subst e
    have e2 : hv U (k + 1) (64 - k) = v := by unfold hv; rw [if_pos (by omega), hv', show 64 - (64 - k) = k by omega]
    rw [e2]
    exact World.cell?_setCell_same' _ _ _ (by rw [(h.1 (64 - k) hj).1]; rfl)
  · have e2 : hv U (k + 1) j = hv U k j := by
      unfold hv
      by_cases h1 : 65 - k ≤ j
      · rw [if_pos h1, if_pos (by omega)]
      · rw [if_neg h1, if_neg (by omega)]
    rw [e2, ← (h.1 j hj).1]
    exact World.cell?_setCell_other _ _ _ _ (by intro q; injection q with _ q; exact e q.symm)
theorem dig36_fin : ∀ i : Fin 16, ((⟨#[48, 49, 50, 51, 52, 53, 54, 55, 56, 57, 97, 98, 99, 100, 101, 102, 103, 104, 105, 106, 107, 108, 109, 110, 111, 112, 113, 114, 115, 116, 117, 118, 119, 120, 121, 122]⟩ : ByteArray)[i.val]'(Nat.lt_of_lt_of_le i.2 (by decide))) = hexD i.val := by decide +kernel
theorem dig36 (v : Nat) (h : v < 16) (hh) : ((⟨#[48, 49, 50, 51, 52, 53, 54, 55, 56, 57, 97, 98, 99, 100, 101, 102, 103, 104, 105, 106, 107, 108, 109, 110, 111, 112, 113, 114, 115, 116, 117, 118, 119, 120, 121, 122]⟩ : ByteArray)[v]'hh) = hexD v := dig36_fin ⟨v, h⟩
theorem zero65 : Tryz.zeroCells231 = Array.replicate 65 (.int .u8 0) := by kernel_rfl
theorem HxAt.start (U : Nat) (w : World) : HxAt U w.heap.size w (w.alloc (.cells Tryz.zeroCells231 231)) 0 := by
  refine ⟨fun j hj => ⟨?_, ?_⟩, (Below.refl _ _).alloc (Nat.le_refl _) _⟩
  · rw [cell_of_row _ _ _ _ _ _ (heap_alloc_new _ _), zero65]
    have e : hv U 0 j = 0 := by unfold hv; rw [if_neg (by omega)]
    rw [e]
    simp [hj]
  · exact World.frozen?_alloc_at _ _ _ _ rfl
def hexL (n : Nat) : List UInt8 := [hexD (n / 16 ^ 5 % 16), hexD (n / 16 ^ 4 % 16), hexD (n / 16 ^ 3 % 16), hexD (n / 16 ^ 2 % 16), hexD (n / 16 % 16), hexD (n % 16)]
set_option maxHeartbeats 4000000 in
set_option maxRecDepth 1000000 in
theorem bits16 (n : Nat) (hn : n < 16777216) (w : World) (hT : Tbs w) :
    Calls Tryz.prog 188 #[.slice none 0 0, .int .u64 ((16777216 + n : Nat) : Int), .int .i64 16, .bool false, .bool false] w fun e w' => e = .returned (.tuple #[.slice none 0 0, .string ⟨(49 :: hexL n).toArray⟩]) ∧ Below w.heap.size w w' := by
  obtain ⟨U, hU⟩ : ∃ U, 16777216 + n = U := ⟨_, rfl⟩
  rw [hU]
  have HU := Lib.hid hU
  have hb1 : 16777216 ≤ U := by omega
  have hb2 : U < 33554432 := by omega
  have H0 := Lib.hid (HxAt.start U w)
  clear hU
  have hX := fun k v hv' => dig36 k v hv'
  go_enter Tryz.func188, Tryz.ntmps188
  go_wp2_with (first | (go_at_call 202; refine (pow16 _).mono ?_; rintro e w' ⟨rfl, rfl⟩) | (go_at_call 203; refine (tz16 _ (hT.below (by first | exact (Below.refl _ _).alloc (Nat.le_refl _) _ | exact Below.refl _ _))).mono ?_; rintro e w' ⟨rfl, rfl⟩))
  go_loopw [1, 13] (fun u i wr => ∃ k : Nat, k ≤ 6 ∧ i = .int .i64 ((65 - k : Nat) : Int) ∧ u = .int .u64 ((U / 16 ^ k : Nat) : Int) ∧ Hid (HxAt U w.heap.size w wr k)) (fun _ i _ => (RowKit.intOf i).toNat)
  case atStart => exact ⟨0, by omega, rfl, by simp, Lib.hid H0.out⟩
  case round =>
    obtain ⟨k, hk, rfl, rfl, H1⟩ := hrel
    clear H0 hT
    by_cases hlt : k < 6
    · have hp : 16 ≤ U / 16 ^ k := by
        have hq : 16 * 16 ^ k ≤ 16 ^ 6 := by rw [Nat.mul_comm, ← Nat.pow_succ]; exact Nat.pow_le_pow_right (by omega) (by omega)
        have h6 : (16 : Nat) ^ 6 = 16777216 := by decide
        exact (Nat.le_div_iff_mul_le (Nat.pow_pos (by omega))).2 (by omega)
      have hle : U / 16 ^ k < 33554432 := Nat.lt_of_le_of_lt (Nat.div_le_self _ _) hb2
      have HN := Lib.hid (show U / 16 ^ (k + 1) = U / 16 ^ k / 16 by rw [Nat.pow_succ, Nat.div_div_eq_div_mul])
      obtain ⟨c1, c2⟩ := H1.out.1 (64 - k) (by omega)
      obtain ⟨x, hx⟩ : ∃ x, U / 16 ^ k = x := ⟨_, rfl⟩
      have HX := Lib.hid hx
      rw [hx] at hp hle
      rw [hx]
      obtain ⟨i, hi⟩ : ∃ i, 64 - k = i := ⟨_, rfl⟩
      have HI := Lib.hid hi
      rw [hi] at c1 c2
      have e1 : 65 - k = i + 1 := by omega
      have hi65 : i < 65 := by omega
      rw [e1]
      clear e1 hi hx
      have ha := and15 (x : Int) (by omega) (by omega)
      have hd := fun h => hX (x % 16) (by omega) h
      clear hX
      go_wp2
      refine ⟨⟨k + 1, by omega, ?_, ?_, Lib.hid ?_⟩, by simp [RowKit.intOf]⟩
      · congr 1; have := HI.out; omega
      · rw [HN.out, HX.out]; congr 1
      · have hh := H1.out.put (Nat.le_refl _) (by omega) (v := ((hexD (x % 16)).toNat : Int)) (by rw [HX.out])
        rw [HI.out] at hh
        exact hh
    · obtain rfl : k = 6 := by omega
      have hq1 : U / 16 ^ 6 = 1 := by have h6 : (16 : Nat) ^ 6 = 16777216 := by decide
                                      rw [h6]; omega
      rw [hq1]
      have hd := fun h => hX 1 (by omega) h
      clear hX
      obtain ⟨c1, c2⟩ := H1.out.1 58 (by omega)
      have H2 := H1.out.put (Nat.le_refl _) (by omega) (v := ((hexD 1).toNat : Int)) (by rw [hq1])
      have hcv := run_convert_bytes_arg (P := Tryz.prog) (wr.setCell ⟨w.heap.size, 58, none⟩ (.int .u8 ((hexD 1).toNat : Int))) 97 5 Tryz.underlying97 Tryz.underlying5 w.heap.size 58 7 7 ((List.range 7).map fun i => hv U 7 (58 + i)) (by simp) (fun i hi => by rw [(H2.1 (58 + i) (by omega)).1]; simp [List.getD, hi]) 9 Tryz.underlying9
      have hB := Lib.hid H2.2
      have hs : strOfNums ((List.range 7).map fun i => hv U 7 (58 + i)) = ⟨(49 :: hexL n).toArray⟩ := by
        have h5 : (16 : Nat) ^ 5 = 1048576 := by decide
        have h4 : (16 : Nat) ^ 4 = 65536 := by decide
        have h3 : (16 : Nat) ^ 3 = 4096 := by decide
        have h2 : (16 : Nat) ^ 2 = 256 := by decide
        have h6 : (16 : Nat) ^ 6 = 16777216 := by decide
        have hU := HU.out
        have q : ∀ i, i < 7 → hv U 7 (58 + i) = ((hexD (U / 16 ^ (6 - i) % 16)).toNat : Int) := fun i hi => by unfold hv; rw [if_pos (by omega), show 64 - (58 + i) = 6 - i by omega]
        have o : ∀ c : UInt8, UInt8.ofNat ((c.toNat : Int)).toNat = c := fun c => by simp
        unfold strOfNums hexL
        congr 1
        have e7 : List.range 7 = [0, 1, 2, 3, 4, 5, 6] := rfl
        rw [e7]
        simp only [List.map_cons, List.map_nil]
        rw [q 0 (by omega), q 1 (by omega), q 2 (by omega), q 3 (by omega), q 4 (by omega), q 5 (by omega), q 6 (by omega)]
        simp only [o, Nat.reduceSub, Nat.pow_zero, Nat.pow_one, Nat.div_one, h2, h3, h4, h5, h6]
        rw [show U / 16777216 % 16 = 1 by omega, show U / 1048576 % 16 = n / 1048576 % 16 by omega, show U / 65536 % 16 = n / 65536 % 16 by omega, show U / 4096 % 16 = n / 4096 % 16 by omega, show U / 256 % 16 = n / 256 % 16 by omega, show U / 16 % 16 = n / 16 % 16 by omega, show U % 16 = n % 16 by omega]
        rfl
      rw [hs] at hcv
      clear H1 H2 hs hq1
      obtain ⟨S, hS⟩ : ∃ S : ByteArray, ⟨(49 :: hexL n).toArray⟩ = S := ⟨_, rfl⟩
      rw [hS] at hcv
      have HS := Lib.hid hS
      clear hS
      go_wp2
      go_ret2
      exact ⟨(show _ = Ending.returned (Value.tuple #[.slice none 0 0, .string S]) from rfl).trans (by rw [HS.out]), hB.out⟩
set_option maxHeartbeats 1000000 in
set_option maxRecDepth 100000 in
theorem fmt16 (n : Nat) (hn : n < 16777216) (w : World) (hT : Tbs w) :
    Calls Tryz.prog 121 #[.int .i64 ((16777216 + n : Nat) : Int), .int .i64 16] w fun e w' => e = .returned (.string ⟨(49 :: hexL n).toArray⟩) ∧ Below w.heap.size w w' := by
  have hF := fun w hT => bits16 n hn w hT
  have hn2 : ((16777216 + n : Nat) : Int) ≤ 33554432 := by omega
  have hn3 : 16777216 ≤ ((16777216 + n : Nat) : Int) := by omega
  generalize ((16777216 + n : Nat) : Int) = z at hF hn2 hn3 ⊢
  generalize (⟨(49 :: hexL n).toArray⟩ : ByteArray) = S at hF ⊢
  have hI : ∀ w, Tbs w → Calls Tryz.prog 149 #[.int .i64 z, .int .i64 16] w fun e w' => e = .returned (.string S) ∧ Below w.heap.size w w' := by
    intro w hT
    have hx := hF w hT
    have d0 : decide (z < 0) = false := decide_eq_false (by omega)
    have d1 : IntKind.u64.wrap z = z := wraps_u64 _ (by omega) (by omega)
    clear hF
    go_enter Tryz.func149, Tryz.ntmps149
    go_wp2_with (go_at_call 188; with_reducible refine (hx).mono ?_; rintro e w' ⟨rfl, hB⟩)
    go_ret
    exact ⟨rfl, hB⟩
  have hy := hI w hT
  clear hI hF
  go_enter Tryz.func121, Tryz.ntmps121
  go_wp2_with (go_at_call 149; refine (hy).mono ?_; rintro e w' ⟨rfl, hB⟩)
  go_ret
  exact ⟨rfl, hB⟩
end Go.Proofs.Val
set_option linter.unusedVariables false
set_option linter.unusedSimpArgs false
namespace Go.Proofs.Val
open Go.RowKit Go.Maps Go.Proofs Go.Proofs.YtolfpgccebdlpaaGreatDoorW.PrintWords
theorem trim_nil (cs : List UInt8) (p : UInt8 → Bool) (hp : ∀ c, cs.contains c = p c) (l : List UInt8) : Lib.trimS l cs = [] ↔ l.all p = true := by
  have e : ∀ l : List UInt8, l.dropWhile (cs.contains ·) = l.dropWhile p := fun l => by
    congr 1; funext c; exact hp c
  unfold Lib.trimS Lib.trimLeftS Lib.trimRightS
  rw [e, e, dropWhile_nil, List.all_reverse]
  constructor
  · intro h
    have := dropWhile_sub _ h
    rwa [List.all_reverse] at this
  · intro h
    have : l.reverse.dropWhile p = [] := dropWhile_nil.2 (by rw [List.all_reverse]; exact h)
    rw [this]; rfl
def hexW : List UInt8 := [48, 49, 50, 51, 52, 53, 54, 55, 56, 57, 97, 98, 99, 100, 101, 102]
theorem hex_contains (c : UInt8) : hexW.contains c = isHex c := u8_all (P := fun c => hexW.contains c = isHex c) (by decide +kernel) c
theorem trim_hex (l : List UInt8) (w : World) (hs : l.length < 4294967281) :
    Calls Tryz.prog 132 #[.string ⟨l.toArray⟩, .string ⟨#[48, 49, 50, 51, 52, 53, 54, 55, 56, 57, 97, 98, 99, 100, 101, 102]⟩] w fun e w' => e = .returned (.string ⟨(Lib.trimS l hexW).toArray⟩) ∧ Below w.heap.size w w' :=
  Any.strings_Trim_laid Tryz.lays160 (by kernel_rfl) ⟨l.toArray⟩ ⟨#[48, 49, 50, 51, 52, 53, 54, 55, 56, 57, 97, 98, 99, 100, 101, 102]⟩ w (by show l.length ≤ _; omega) (by decide) (ascii_all (by decide))
theorem lawS : Keyed Tryz.prog 9 := string_keyed Tryz.underlying9
theorem keyOf_str {s : ByteArray} (hs : s.size ≤ maxLen) : keyOf Tryz.prog 9 (.string s) = some (.string s.data.toList) := by
  simp [keyOf, Tryz.underlying9, mapKey, hs]
theorem wpList_insert_own {P : Program} (w : World) {ops : Array Oper} {rest : List Oper} {o : Oper} {a : Act} {Q : Exit → Act → World → Prop}
    (hg : o.guard = none) (m x v : Operand) (t : TypeId) (hop : o.op = Op.insert t m x v)
    (k e : TypeId) (K : Keyed P k) (ht : P.underlying t = some (.map k e)) (R : Value → Option (DataW Unit × List MemPlace)) (b n : Nat) (D : DataW Unit)
    (hm : a.eval m = .map (some b)) (hown : w.ownsMap P k R b n D) (hn : n < maxLen) (key val : Value) (kl : Lit) (hx : a.eval x = key) (hv : a.eval v = val) (hkey : keyOf P k key = some kl)
    (d : DataW Unit) (ps : List MemPlace) (hval : R val = some (d, ps))
    (hK : ∀ w', w'.ownsMap P k R b (n + 1) (D.put kl d) → w.grownBy w' (some b) → wpList P ops Q rest (a.put o.dst undef) w') :
    wpList P ops Q (o :: rest) a w := by
  refine wpList_plain hg fun K' hK' => ?_
  obtain ⟨w', hrun, r1, r2⟩ := hown.update K ht hn hkey hval
  unfold Oper.wp
  simp [execOp, hop, hm, hx, hv, hrun, Result.andThen]
  exact hK' _ _ (hK w' r1 r2)
theorem made_own (w : World) : (w.alloc (.map #[] 0)).ownsMap Tryz.prog 9 (plainElem (H := Unit) Tryz.prog 2) w.heap.size 0 (.map []) := World.ownsMap_made _ _ _ _
def kBlack : List UInt8 := [98, 108, 97, 99, 107]
def kWhite : List UInt8 := [119, 104, 105, 116, 101]
def kRed : List UInt8 := [114, 101, 100]
def kGreen : List UInt8 := [103, 114, 101, 101, 110]
def kBlue : List UInt8 := [98, 108, 117, 101]
abbrev i64L (n : Int) : DataW Unit := .lit (.int .i64 n)
theorem i64L_inj {a b : Int} (h : i64L a = i64L b) : a = b := by simpa [i64L] using h
def colD : DataW Unit := (((((DataW.map []).put (.string kBlack) (i64L 0)).put (.string kWhite) (i64L 16777215)).put (.string kRed) (i64L 16711680)).put (.string kGreen) (i64L 32768)).put (.string kBlue) (i64L 255)
def namC (l : List UInt8) : Option Int := if l = kBlue then some 255 else if l = kGreen then some 32768 else if l = kRed then some 16711680 else if l = kWhite then some 16777215 else if l = kBlack then some 0 else none
def hexOk (l : List UInt8) : Bool := Lib.hasPrefix l [35] && (decide ((Lib.trimPrefix l [35]).length = 6) && (Lib.trimPrefix l [35]).all isHex)
def colOk (l : List UInt8) : Bool := (namC l).isSome || hexOk l
def colN (l : List UInt8) : Int := match namC l with | some n => n | none => if hexOk l = true then (hexV 0 (Lib.trimPrefix l [35]) : Int) else 0
theorem ismap_put {D : DataW Unit} (h : IsMap D) (k : Lit) (d : DataW Unit) : IsMap (D.put k d) := by
  obtain ⟨es, rfl⟩ := h
  exact ⟨_, rfl⟩
theorem col_at (l : List UInt8) : colD.atKey (.string l) (i64L 0) = i64L ((namC l).getD 0) ∧ Maps.has colD (.string l) = (namC l).isSome := by
  have m0 : IsMap (DataW.map ([] : List (Lit × DataW Unit))) := ⟨_, rfl⟩
  have m1 := ismap_put m0 (.string kBlack) (i64L 0)
  have m2 := ismap_put m1 (.string kWhite) (i64L 16777215)
  have m3 := ismap_put m2 (.string kRed) (i64L 16711680)
  have m4 := ismap_put m3 (.string kGreen) (i64L 32768)
  have kl : ∀ l, WideAt.IsKeyLit (.string l) := fun l => trivial
  have ne : ∀ {a b : List UInt8}, a ≠ b → (Lit.string a) ≠ (Lit.string b) := fun h e => h (by injection e)
  unfold colD namC
  by_cases h5 : l = kBlue
  · rw [if_pos h5, h5, atKey_put_same m4 (kl _), has_put_same m4 (kl _)]; exact ⟨rfl, rfl⟩
  · rw [if_neg h5, atKey_put_other (ne h5), has_put_other (ne h5)]
    by_cases h4 : l = kGreen
    · rw [if_pos h4, h4, atKey_put_same m3 (kl _), has_put_same m3 (kl _)]; exact ⟨rfl, rfl⟩
    · rw [if_neg h4, atKey_put_other (ne h4), has_put_other (ne h4)]
      by_cases h3 : l = kRed
      · rw [if_pos h3, h3, atKey_put_same m2 (kl _), has_put_same m2 (kl _)]; exact ⟨rfl, rfl⟩
      · rw [if_neg h3, atKey_put_other (ne h3), has_put_other (ne h3)]
        by_cases h2 : l = kWhite
        · rw [if_pos h2, h2, atKey_put_same m1 (kl _), has_put_same m1 (kl _)]; exact ⟨rfl, rfl⟩
        · rw [if_neg h2, atKey_put_other (ne h2), has_put_other (ne h2)]
          by_cases h1 : l = kBlack
          · rw [if_pos h1, h1, atKey_put_same m0 (kl _), has_put_same m0 (kl _)]; exact ⟨rfl, rfl⟩
          · rw [if_neg h1, atKey_put_other (ne h1), has_put_other (ne h1)]; exact ⟨rfl, rfl⟩
set_option maxHeartbeats 4000000 in
set_option maxRecDepth 100000 in
theorem colorC (l : List UInt8) (w : World) (hs : l.length < 4294967281) :
    Calls Tryz.prog 176 #[.string ⟨l.toArray⟩] w fun e w' => e = .returned (.tuple #[.int .i64 (colN l), .bool (colOk l)]) ∧ Below w.heap.size w w' := by
  have hmm := @run_makeMap Tryz.prog
  have hown := made_own w
  have hb0 : Below w.heap.size w (w.alloc (.map #[] 0)) := (Below.refl _ _).alloc (Nat.le_refl _) _
  obtain ⟨s, hS⟩ : ∃ s : ByteArray, ⟨l.toArray⟩ = s := ⟨_, rfl⟩
  have hl : s.data.toList = l := by rw [← hS]
  have hP := fun w => Tryz.strings_CutPrefix s ⟨#[35]⟩ w
  have hT := fun w => trim_hex (Lib.trimPrefix l [35]) w (by have := trimPrefix_len l [35]; omega)
  rw [hl, show (⟨#[35]⟩ : ByteArray).data.toList = [35] from rfl] at hP
  have hkey := keyOf_str (s := s) (by rw [← hS]; show l.length ≤ maxLen; unfold maxLen; omega)
  rw [hl] at hkey
  rw [hS]
  clear hS hl
  go_enter Tryz.func176, Tryz.ntmps176
  go_upto_region 2 with (refine wpList_insert_own _ rfl _ _ _ 224 rfl 9 2 lawS Tryz.underlying224 (plainElem (H := Unit) Tryz.prog 2) w.heap.size _ _ rfl (by assumption) (by decide) _ _ _ rfl rfl (keyOf_str (by decide)) _ [] (plainElem_int Tryz.underlying2 (by decide)) ?_; intro w1 hown hgrow; replace hb0 := hb0.grown hgrow hb0.size (fun j e => by cases e; exact Nat.le_refl _); clear hgrow)
  have hown : w1.ownsMap Tryz.prog 9 (plainElem (H := Unit) Tryz.prog 2) w.heap.size 5 colD := hown
  obtain ⟨q1, q2⟩ := col_at l
  have HO := Lib.hid hown
  have HB := Lib.hid hb0
  clear hb0 hmm
  clear hown
  go_upto_region 3 with (refine wpList_lookup_own_ok_int _ rfl _ _ 224 rfl 9 2 .i64 lawS Tryz.underlying224 Tryz.underlying2 (by kernel_rfl) w.heap.size 5 colD rfl HO.out _ _ rfl hkey ?_; intro c hat hwc; rw [q1] at hat; rw [q2]; rw [← i64L_inj hat]; clear hat hwc)
  obtain ⟨o, ho⟩ : ∃ o, namC l = o := ⟨_, rfl⟩
  rw [ho]
  clear q1 q2 HO hkey
  cases o with
  | some n =>
    have HK := Lib.hid (show colN l = n ∧ colOk l = true from ⟨by unfold colN; rw [ho], by unfold colOk; rw [ho]; rfl⟩)
    clear ho hP hT hs
    go_wp2
    go_ret2
    exact ⟨(show _ = Ending.returned (Value.tuple #[.int .i64 n, .bool true]) from rfl).trans (by rw [HK.out.1, HK.out.2]), HB.out⟩
  | none =>
    have HA := Lib.hid (show colOk l = (Lib.hasPrefix l [35] && (decide ((Lib.trimPrefix l [35]).length = 6) && (Lib.trimPrefix l [35]).all isHex)) by unfold colOk hexOk; rw [ho]; rfl)
    have HN := Lib.hid (show colN l = if colOk l = true then (hexV 0 (Lib.trimPrefix l [35]) : Int) else 0 by unfold colN colOk; rw [ho]; rfl)
    have hlen := trimPrefix_len l [35]
    obtain ⟨rest, hr⟩ : ∃ r, Lib.trimPrefix l [35] = r := ⟨_, rfl⟩
    obtain ⟨bl, hb⟩ : ∃ r, Lib.hasPrefix l [35] = r := ⟨_, rfl⟩
    have htn := trim_nil hexW isHex hex_contains rest
    rw [hr, hb] at HA
    rw [hr] at HN
    simp only [hr, hb] at hP hT hlen
    clear ho hr hb
    cases bl with
    | false =>
      have HK := Lib.hid (show colOk l = false ∧ colN l = 0 from ⟨by rw [HA.out]; rfl, by rw [HN.out, show colOk l = false by rw [HA.out]; rfl]; rfl⟩)
      clear HA HN hT htn hs hlen
      go_wp2_with (go_at_call 182; refine (hP _).mono ?_; rintro e w' ⟨rfl, rfl⟩)
      go_ret2
      exact ⟨(show _ = Ending.returned (Value.tuple #[.int .i64 0, .bool false]) from rfl).trans (by rw [HK.out.1, HK.out.2]), HB.out⟩
    | true =>
      have BAD : ∀ (_ : colOk l = false), Hid (colOk l = false ∧ colN l = 0) := fun h => Lib.hid ⟨h, by rw [HN.out, h]; rfl⟩
      have e4 := ba_nil (Lib.trimS rest hexW)
      by_cases h6 : rest.length = 6
      · have d6 : ((rest.length : Int) != 6) = false := by rw [h6]; rfl
        by_cases hh : rest.all isHex = true
        · rw [decide_eq_true (htn.2 hh)] at e4
          have hI := fun w => parse16 rest (fun e => by rw [e] at h6; cases h6) (by omega) hh w
          have HK := Lib.hid (show colOk l = true ∧ colN l = (hexV 0 rest : Int) from by
            have e : colOk l = true := by rw [HA.out, decide_eq_true h6, hh]; rfl
            exact ⟨e, by rw [HN.out, e]; rfl⟩)
          clear HA HN htn hs hlen hh h6 BAD
          generalize (Lib.trimS rest hexW) = tr at hT e4
          generalize (⟨tr.toArray⟩ : ByteArray) = tb at hT e4
          generalize (hexV 0 rest : Int) = z at hI HK
          go_wp2_with (first | (go_at_call 182; refine (hP _).mono ?_; rintro e w' ⟨rfl, rfl⟩) | (go_at_call 132; refine (hT _).mono ?_; rintro e w2 ⟨rfl, hB2⟩) | (go_at_call 184; refine (hI _).mono ?_; rintro e w3 ⟨rfl, hB3⟩))
          go_quiet (fail)
          go_wp2
          go_ret2
          have q2 := below_then HB.out HB.out.size hB2
          have q3 := below_then q2 q2.size hB3
          exact ⟨(show _ = Ending.returned (Value.tuple #[.int .i64 z, .bool true]) from rfl).trans (by rw [HK.out.1, HK.out.2]), pw_below_drewN q3 nq⟩
        · rw [decide_eq_false (fun e => hh (htn.1 e))] at e4
          have HK := BAD (by rw [HA.out, Bool.eq_false_iff.2 hh]; simp)
          clear HA HN htn hs hlen hh h6 BAD
          generalize (Lib.trimS rest hexW) = tr at hT e4
          generalize (⟨tr.toArray⟩ : ByteArray) = tb at hT e4
          go_wp2_with (first | (go_at_call 182; refine (hP _).mono ?_; rintro e w' ⟨rfl, rfl⟩) | (go_at_call 132; refine (hT _).mono ?_; rintro e w2 ⟨rfl, hB2⟩))
          go_ret2
          exact ⟨(show _ = Ending.returned (Value.tuple #[.int .i64 0, .bool false]) from rfl).trans (by rw [HK.out.1, HK.out.2]), below_then HB.out HB.out.size hB2⟩
      · have d6 : ((rest.length : Int) != 6) = true := bne_iff_ne.2 (by omega)
        have HK := BAD (by rw [HA.out, decide_eq_false h6]; rfl)
        clear HA HN htn hs hlen h6 BAD hT e4
        go_wp2_with (go_at_call 182; refine (hP _).mono ?_; rintro e w' ⟨rfl, rfl⟩)
        go_ret2
        exact ⟨(show _ = Ending.returned (Value.tuple #[.int .i64 0, .bool false]) from rfl).trans (by rw [HK.out.1, HK.out.2]), HB.out⟩
end Go.Proofs.Val
set_option linter.unusedVariables false
set_option linter.unusedSimpArgs false
namespace Go.Proofs.Scn
open Go.RowKit Go.Lib Go.Proofs.YtolfpgccebdlpaaGreatDoorW.PrintWords
end Go.Proofs.Scn
namespace Go.Proofs.Val
open Go.RowKit Go.Proofs Go.Proofs.YtolfpgccebdlpaaGreatDoorW.PrintWords
theorem mayV_zero (k n : Int) : mayV 0 k n = false := by
  have e1 : (rec0 0).auto = false := rfl
  have e2 : (rec0 0).length = false := rfl
  have e3 : (rec0 0).part = false := rfl
  have e4 : (rec0 0).color = false := rfl
  have e5 : (rec0 0).number = false := rfl
  have e6 : (rec0 0).wn = 0 := rfl
  unfold mayV
  rw [e1, e2, e3, e4, e5, e6]
  split
  · rfl
  split
  · rfl
  split
  · rfl
  split
  · rfl
  split
  · by_cases h : 0 ≤ n
    · rw [decide_eq_true h, decide_eq_false (by omega)]; rfl
    · rw [decide_eq_false h]; rfl
  split <;> rfl
theorem recA0 (wa : Option Addr) : recV (recA 0 wa) = .agg #[.string ⟨#[]⟩, .bool false, .bool false, .bool false, .bool false, .bool false, .bool false, .slice wa 0 0, .int .i64 0, .int .i64 0] := rfl
set_option maxHeartbeats 2000000 in
theorem mayOut (p : Int) (hp : ¬ (1 ≤ p ∧ p ≤ 26)) (k n : Int) (w : World) :
    Calls Tryz.prog 74 #[.int .i64 p, .agg #[.int .i64 k, .int .i64 n]] w fun e w' => e = .returned (.bool false) ∧ Below w.heap.size w w' := by
  have hO := fun w => ofP p w
  simp only [cl_out hp, decide_eq_false hp, recA0] at hO
  clear hp
  go_enter Tryz.func74, Tryz.ntmps74
  go_upto_region 3 with (first | (go_at_call 116; refine (hO _).mono ?_; rintro e w1 ⟨wa, rfl, hS, hB⟩; clear hS; obtain ⟨hc, hf⟩ := bcell hB; have hz : w.heap.size < w1.heap.size := by (have hs := hB.size; rw [alloc_size] at hs; omega)))
  have p1 : Below w.heap.size w w1 := ((Below.refl _ _).alloc (Nat.le_refl _) _).trans (hB.mono (by rw [alloc_size]; omega))
  have P1 := Lib.hid (below_alloc p1 (.cells #[.string ⟨#[]⟩, .bool false, .bool false, .bool false, .bool false, .bool false, .bool false, .slice wa 0 0, .int .i64 0, .int .i64 0] 163))
  clear hB p1 hO
  go_upto_region 5 with fail
  by_cases k1 : k = 1
  · subst k1
    go_wp2
    go_ret
    exact ⟨rfl, P1.out⟩
  have f1 : (k == 1) = false := by simp [k1]
  by_cases k2 : k = 2
  · subst k2
    go_wp2; go_quiet (fail); go_wp2
    go_ret
    exact ⟨rfl, pw_below_drewN P1.out _⟩
  have f2 : (k == 2) = false := by simp [k2]
  by_cases k3 : k = 3
  · subst k3
    go_wp2; go_quiet (fail); go_wp2
    go_ret
    exact ⟨rfl, pw_below_drewN P1.out _⟩
  have f3 : (k == 3) = false := by simp [k3]
  by_cases k4 : k = 4
  · subst k4
    go_wp2
    go_ret
    exact ⟨rfl, P1.out⟩
  have f4 : (k == 4) = false := by simp [k4]
  by_cases k5 : k = 5
  · subst k5
    by_cases ha : (0 : Int) ≤ n
    · have ga : decide ((0 : Int) ≤ n) = true := decide_eq_true ha
      have gb : decide (n < (0 : Int)) = false := decide_eq_false (by omega)
      go_wp2
      go_ret
      exact ⟨rfl, P1.out⟩
    · have ga : decide ((0 : Int) ≤ n) = false := decide_eq_false ha
      go_wp2
      go_ret
      exact ⟨rfl, P1.out⟩
  have f5 : (k == 5) = false := by simp [k5]
  by_cases k6 : k = 6
  · subst k6
    go_wp2; go_quiet (fail); go_wp2
    go_ret
    exact ⟨rfl, pw_below_drewN P1.out _⟩
  have f6 : (k == 6) = false := by simp [k6]
  go_wp2
  go_ret
  exact ⟨rfl, P1.out⟩
theorem mayP (p k n : Int) (w : World) :
    Calls Tryz.prog 74 #[.int .i64 p, .agg #[.int .i64 k, .int .i64 n]] w fun e w' => e = .returned (.bool (mayV (cl p) k n)) ∧ Below w.heap.size w w' := by
  by_cases hp : 1 ≤ p ∧ p ≤ 26
  · obtain ⟨q, rfl⟩ : ∃ q : Nat, p = (q : Int) := ⟨p.toNat, by omega⟩
    rw [cl_in hp.1 hp.2, Int.toNat_natCast]
    exact mayC q (by omega) (by omega) k n w
  · rw [cl_out hp, mayV_zero]
    exact mayOut p hp k n w
end Go.Proofs.Val
