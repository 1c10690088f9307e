/- strconv.ParseInt at base 16, of texts of small hexadecimal digits: contracts proved by walking their text; no condition beside those that each theorem states. -/
import Derived.Test.YtmfhhlgjbjbnhaaGreatDoorVaB
import Derived.Lib.ConvBytes
import Derived.Maps.OwnOps
import Derived.Maps.OwnSet
import Derived.Maps.Views
import Derived.BigQuiet
set_option linter.unusedVariables false
set_option linter.unusedSimpArgs false
namespace Go.Proofs.Val
open Go.RowKit Go.Proofs Go.Proofs.YtmfhhlgjbjbnhaaGreatDoorW.PrintWords
def isHex (c : UInt8) : Bool := isDig c || (decide (97 ≤ c.toNat) && decide (c.toNat ≤ 102))
def hx (c : UInt8) : Nat := if c.toNat ≤ 57 then c.toNat - 48 else c.toNat - 87
def hexV (a : Nat) (l : List UInt8) : Nat := l.foldl (fun a c => a * 16 + hx c) a
theorem isHex_iff {c : UInt8} : isHex c = true ↔ (48 ≤ c.toNat ∧ c.toNat ≤ 57) ∨ (97 ≤ c.toNat ∧ c.toNat ≤ 102) := by simp [isHex, isDig]
theorem hx_lt {c : UInt8} (h : isHex c = true) : hx c < 16 := by
  rw [isHex_iff] at h
  unfold hx; split <;> omega
theorem hexV_snoc (a : Nat) (l : List UInt8) (c : UInt8) : hexV a (l ++ [c]) = hexV a l * 16 + hx c := by unfold hexV; rw [List.foldl_append]; rfl
theorem hexV_take_lt {l : List UInt8} (h : l.all isHex = true) : ∀ k, k ≤ l.length → hexV 0 (l.take k) < 16 ^ k
  | 0, _ => by simp [hexV]
  | k + 1, hk => by
    have ih := hexV_take_lt h k (by omega)
    rw [List.take_succ_eq_append_getElem (by omega), hexV_snoc, Nat.pow_succ]
    have := hx_lt (List.all_eq_true.1 h _ (List.getElem_mem (show k < l.length by omega)))
    omega
theorem hexV_take_succ {l : List UInt8} {k : Nat} (hk : k < l.length) : hexV 0 (l.take (k + 1)) = hexV 0 (l.take k) * 16 + hx (l.getD k 0) := by
  rw [List.take_succ_eq_append_getElem hk, hexV_snoc]
  simp [List.getD, List.getElem?_eq_getElem hk]
theorem hex_le6 {k : Nat} (h : k ≤ 6) : 16 ^ k ≤ 16777216 := by
  obtain rfl | rfl | rfl | rfl | rfl | rfl | rfl : k = 0 ∨ k = 1 ∨ k = 2 ∨ k = 3 ∨ k = 4 ∨ k = 5 ∨ k = 6 := by omega
  all_goals decide
set_option maxHeartbeats 4000000 in
set_option maxRecDepth 1000000 in
theorem parseU16 (l : List UInt8) (h1 : l ≠ []) (h6 : l.length ≤ 6) (hx' : l.all isHex = true) (w : World) :
    Calls Tryz.prog 85 #[.string ⟨l.toArray⟩, .int .i64 16, .int .i64 64] w fun e w' => e = .returned (.tuple #[.int .u64 (hexV 0 l : Int), .nilIface]) ∧ Below w.heap.size w w' := by
  have hconv := Lib.run_convert_string_bytes (P := Tryz.prog) w 9 56 5 ⟨l.toArray⟩ Tryz.underlying9 Tryz.underlying56 Tryz.underlying5
  have hcells := Lib.bytesWorld_cell w 5 ⟨l.toArray⟩
  have hbel := Lib.bytesWorld_below w 5 ⟨l.toArray⟩
  have e1 := ba_nil l
  rw [decide_eq_false h1] at e1
  have hsz := ba_size l
  obtain ⟨W1, hW1⟩ : ∃ W1, Lib.bytesWorld w 5 ⟨l.toArray⟩ = W1 := ⟨_, rfl⟩
  obtain ⟨cap, hcap⟩ : ∃ cap, grownCap w (⟨l.toArray⟩ : ByteArray).size 0 5 = cap := ⟨_, rfl⟩
  rw [hW1] at hconv hcells hbel
  rw [hcap] at hconv
  rw [hsz] at hconv hcells
  rw [show (⟨l.toArray⟩ : ByteArray).data.toList = l from rfl] at hcells
  have HC := Lib.hid hcells
  have HB := Lib.hid hbel
  clear hW1 hcap hcells hbel hsz
  obtain ⟨s, hS⟩ : ∃ s : ByteArray, ⟨l.toArray⟩ = s := ⟨_, rfl⟩
  rw [hS] at e1 hconv ⊢
  clear hS
  go_enter Tryz.func85, Tryz.ntmps85
  go_wp2
  have hm : IntKind.u64.wrap (IntKind.u64.wrap 18446744073709551616 - 1) = 18446744073709551615 := by decide
  rw [hm]
  clear hm hconv
  go_loopw [12, 13, 101] (fun u m i wr => ∃ k : Nat, k ≤ l.length ∧ i = .int .i64 k ∧ m = .int .u64 (hexV 0 (l.take k) : Int) ∧ u = .bool false ∧ wr = W1) (fun _ _ i _ => l.length - (RowKit.intOf i).toNat)
  case atStart => exact ⟨0, by omega, rfl, rfl, rfl, rfl⟩
  case round =>
    obtain ⟨k, hk, rfl, rfl, rfl, rfl⟩ := hrel
    have hnl := hexV_take_lt hx' k hk
    have hp := hex_le6 (Nat.le_trans hk h6)
    by_cases hlt : k < l.length
    · have hc := HC.out k hlt
      have hhex : isHex (l.getD k 0) = true := by
        have e : l.getD k 0 = l[k] := by simp [List.getD, List.getElem?_eq_getElem hlt]
        rw [e]
        exact List.all_eq_true.1 hx' _ (List.getElem_mem hlt)
      have hsuc := hexV_take_succ hlt
      obtain ⟨n, hn⟩ : ∃ n, hexV 0 (l.take k) = n := ⟨_, rfl⟩
      obtain ⟨c, hcc⟩ : ∃ c, l.getD k 0 = c := ⟨_, rfl⟩
      rw [hn] at hnl hsuc ⊢
      rw [hcc] at hc hhex hsuc
      have hn16 : n < 16777216 := by omega
      rw [isHex_iff] at hhex
      obtain ⟨z, hz⟩ : ∃ z : Int, (n : Int) = z := ⟨_, rfl⟩
      have bz : 0 ≤ z ∧ z < 16777216 := by omega
      have gz : decide ((1152921504606846976 : Int) ≤ z) = false := decide_eq_false (by omega)
      rw [hz]
      have HS := Lib.hid (show (hexV 0 (l.take (k + 1)) : Int) = z * 16 + (hx c : Int) by rw [hsuc, ← hz]; omega)
      clear hn hcc hp hnl hsuc hz hn16
      by_cases hd : c.toNat ≤ 57
      · have HV := Lib.hid (show hx c = c.toNat - 48 by unfold hx; rw [if_pos hd])
        have hlo : 48 ≤ c.toNat := by omega
        obtain ⟨x, hxx⟩ : ∃ x : Int, (c.toNat : Int) = x := ⟨_, rfl⟩
        have HX := Lib.hid hxx
        rw [hxx] at hc
        have b1 : 48 ≤ x ∧ x ≤ 57 := by omega
        have g0 : (x == 95) = false := beq_eq_false_iff_ne.2 (by omega)
        have g1 : decide ((48 : Int) ≤ x) = true := decide_eq_true (by omega)
        have g2 : decide (x ≤ (57 : Int)) = true := decide_eq_true (by omega)
        clear hhex hd hlo hxx
        go_wp2
        refine ⟨⟨k + 1, by omega, by go_num, ?_, rfl, trivial⟩, by simp [RowKit.intOf]; omega⟩
        rw [HS.out, HV.out]
        congr 1
        have := HX.out
        omega
      · have HV := Lib.hid (show hx c = c.toNat - 87 by unfold hx; rw [if_neg hd])
        obtain ⟨x, hxx⟩ : ∃ x : Int, (c.toNat : Int) = x := ⟨_, rfl⟩
        have HX := Lib.hid hxx
        rw [hxx] at hc
        have b1 : 97 ≤ x ∧ x ≤ 102 := by omega
        have hlow : bits .or .u8 x 32 = x := by
          obtain rfl | rfl | rfl | rfl | rfl | rfl : x = 97 ∨ x = 98 ∨ x = 99 ∨ x = 100 ∨ x = 101 ∨ x = 102 := by omega
          all_goals decide
        have g0 : (x == 95) = false := beq_eq_false_iff_ne.2 (by omega)
        have g1 : decide ((48 : Int) ≤ x) = true := decide_eq_true (by omega)
        have g2 : decide (x ≤ (57 : Int)) = false := decide_eq_false (by omega)
        have g3 : decide ((97 : Int) ≤ x) = true := decide_eq_true (by omega)
        have g4 : decide (x ≤ (122 : Int)) = true := decide_eq_true (by omega)
        clear hhex hd hxx
        go_wp2_with (go_at_call 96; refine (Tryz.internal_strconv_lower _ _).mono ?_; rintro e w' ⟨rfl, rfl⟩; rw [hlow])
        refine ⟨⟨k + 1, by omega, by go_num, ?_, rfl, trivial⟩, by simp [RowKit.intOf]; omega⟩
        rw [HS.out, HV.out]
        congr 1
        have := HX.out
        omega
    · obtain rfl : k = l.length := by omega
      rw [List.take_length] at hnl ⊢
      obtain ⟨z, hz⟩ : ∃ z : Int, (hexV 0 l : Int) = z := ⟨_, rfl⟩
      rw [hz]
      have HZ := Lib.hid hz
      clear hnl hp hx' HC hz
      go_wp2
      go_ret2
      exact ⟨(show _ = Ending.returned (Value.tuple #[.int .u64 z, .nilIface]) from rfl).trans (by rw [HZ.out]), HB.out⟩
set_option maxHeartbeats 4000000 in
set_option maxRecDepth 100000 in
theorem parseI16 (l : List UInt8) (h1 : l ≠ []) (h6 : l.length ≤ 6) (hx' : l.all isHex = true) (w : World) :
    Calls Tryz.prog 70 #[.string ⟨l.toArray⟩, .int .i64 16, .int .i64 64] w fun e w' => e = .returned (.tuple #[.int .i64 (hexV 0 l : Int), .nilIface]) ∧ Below w.heap.size w w' := by
  have hU := fun w => parseU16 l h1 h6 hx' w
  have hb := hexV_take_lt hx' l.length (Nat.le_refl _)
  have hp := hex_le6 h6
  rw [List.take_length] at hb
  obtain ⟨z, hz⟩ : ∃ z : Int, (hexV 0 l : Int) = z := ⟨_, rfl⟩
  have bz : 0 ≤ z ∧ z < 16777216 := by omega
  simp only [hz] at hU ⊢
  obtain ⟨c, r, rfl⟩ := List.exists_cons_of_ne_nil h1
  have hc : isHex c = true := by
    rw [List.all_cons, Bool.and_eq_true] at hx'
    exact hx'.1
  rw [isHex_iff] at hc
  have e1 := ba_nil (c :: r)
  rw [decide_eq_false h1] at e1
  have e2 := ba_size (c :: r)
  clear hb hp hz hx' h1 h6
  go_enter Tryz.func70, Tryz.ntmps70
  go_upto_region 5 with (fail)
  have eb : ∀ h, ((⟨(c :: r).toArray⟩ : ByteArray)[0]'h) = c := fun h => rfl
  simp only [eb]
  obtain ⟨x, hxx⟩ : ∃ x : Int, (c.toNat : Int) = x := ⟨_, rfl⟩
  rw [hxx]
  have g0 : (x == 43) = false := beq_eq_false_iff_ne.2 (by omega)
  have g1 : (x == 45) = false := beq_eq_false_iff_ne.2 (by omega)
  have g2 : decide ((9223372036854775808 : Int) ≤ z) = false := decide_eq_false (by omega)
  clear eb hxx hc e1 e2
  generalize (⟨(c :: r).toArray⟩ : ByteArray) = s at hU ⊢
  go_wp2_with (go_at_call 85; refine (hU _).mono ?_; rintro e w' ⟨rfl, hB⟩)
  go_ret2
  exact ⟨rfl, hB⟩
set_option maxHeartbeats 1000000 in
theorem parse16 (l : List UInt8) (h1 : l ≠ []) (h6 : l.length ≤ 6) (hx' : l.all isHex = true) (w : World) :
    Calls Tryz.prog 51 #[.string ⟨l.toArray⟩, .int .i64 16, .int .i64 64] w fun e w' => e = .returned (.tuple #[.int .i64 (hexV 0 l : Int), .nilIface]) ∧ Below w.heap.size w w' := by
  have hU := fun w => parseI16 l h1 h6 hx' w
  generalize (⟨l.toArray⟩ : ByteArray) = s at hU ⊢
  generalize (hexV 0 l : Int) = z at hU ⊢
  go_enter Tryz.func51, Tryz.ntmps51
  go_wp2_with (go_at_call 70; refine (hU _).mono ?_; rintro e w' ⟨rfl, hB⟩)
  go_ret2
  exact ⟨rfl, hB⟩
end Go.Proofs.Val
set_option linter.unusedVariables false
set_option linter.unusedSimpArgs false
namespace Go.Proofs.Val
open Go.RowKit Go.Maps Go.Proofs Go.Proofs.YtmfhhlgjbjbnhaaGreatDoorW.PrintWords
theorem trim_nil (cs : List UInt8) (p : UInt8 → Bool) (hp : ∀ c, cs.contains c = p c) (l : List UInt8) : Lib.trimS l cs = [] ↔ l.all p = true := by
  have e : ∀ l : List UInt8, l.dropWhile (cs.contains ·) = l.dropWhile p := fun l => by
    congr 1; funext c; exact hp c
  unfold Lib.trimS Lib.trimLeftS Lib.trimRightS
  rw [e, e, dropWhile_nil, List.all_reverse]
  constructor
  · intro h
    have := dropWhile_sub _ h
    rwa [List.all_reverse] at this
  · intro h
    have : l.reverse.dropWhile p = [] := dropWhile_nil.2 (by rw [List.all_reverse]; exact h)
    rw [this]; rfl
def hexW : List UInt8 := [48, 49, 50, 51, 52, 53, 54, 55, 56, 57, 97, 98, 99, 100, 101, 102]
theorem hex_contains (c : UInt8) : hexW.contains c = isHex c := u8_all (P := fun c => hexW.contains c = isHex c) (by decide +kernel) c
theorem trim_hex (l : List UInt8) (w : World) (hs : l.length < 4294967281) :
    Calls Tryz.prog 39 #[.string ⟨l.toArray⟩, .string ⟨#[48, 49, 50, 51, 52, 53, 54, 55, 56, 57, 97, 98, 99, 100, 101, 102]⟩] w fun e w' => e = .returned (.string ⟨(Lib.trimS l hexW).toArray⟩) ∧ Below w.heap.size w w' :=
  Any.strings_Trim_laid Tryz.lays160 (by kernel_rfl) ⟨l.toArray⟩ ⟨#[48, 49, 50, 51, 52, 53, 54, 55, 56, 57, 97, 98, 99, 100, 101, 102]⟩ w (by show l.length ≤ _; omega) (by decide) (ascii_all (by decide))
theorem lawS : Keyed Tryz.prog 9 := string_keyed Tryz.underlying9
theorem keyOf_str {s : ByteArray} (hs : s.size ≤ maxLen) : keyOf Tryz.prog 9 (.string s) = some (.string s.data.toList) := by
  simp [keyOf, Tryz.underlying9, mapKey, hs]
theorem wpList_insert_own {P : Program} (w : World) {ops : Array Oper} {rest : List Oper} {o : Oper} {a : Act} {Q : Exit → Act → World → Prop}
    (hg : o.guard = none) (m x v : Operand) (t : TypeId) (hop : o.op = Op.insert t m x v)
    (k e : TypeId) (K : Keyed P k) (ht : P.underlying t = some (.map k e)) (R : Value → Option (DataW Unit × List MemPlace)) (b n : Nat) (D : DataW Unit)
    (hm : a.eval m = .map (some b)) (hown : w.ownsMap P k R b n D) (hn : n < maxLen) (key val : Value) (kl : Lit) (hx : a.eval x = key) (hv : a.eval v = val) (hkey : keyOf P k key = some kl)
    (d : DataW Unit) (ps : List MemPlace) (hval : R val = some (d, ps))
    (hK : ∀ w', w'.ownsMap P k R b (n + 1) (D.put kl d) → w.grownBy w' (some b) → wpList P ops Q rest (a.put o.dst undef) w') :
    wpList P ops Q (o :: rest) a w := by
  refine wpList_plain hg fun K' hK' => ?_
  obtain ⟨w', hrun, r1, r2⟩ := hown.update K ht hn hkey hval
  unfold Oper.wp
  simp [execOp, hop, hm, hx, hv, hrun, Result.andThen]
  exact hK' _ _ (hK w' r1 r2)
theorem made_own (w : World) : (w.alloc (.map #[] 0)).ownsMap Tryz.prog 9 (plainElem (H := Unit) Tryz.prog 2) w.heap.size 0 (.map []) := World.ownsMap_made _ _ _ _
def kBlack : List UInt8 := [98, 108, 97, 99, 107]
def kWhite : List UInt8 := [119, 104, 105, 116, 101]
def kRed : List UInt8 := [114, 101, 100]
def kGreen : List UInt8 := [103, 114, 101, 101, 110]
def kBlue : List UInt8 := [98, 108, 117, 101]
abbrev i64L (n : Int) : DataW Unit := .lit (.int .i64 n)
theorem i64L_inj {a b : Int} (h : i64L a = i64L b) : a = b := by simpa [i64L] using h
def colD : DataW Unit := (((((DataW.map []).put (.string kBlack) (i64L 0)).put (.string kWhite) (i64L 16777215)).put (.string kRed) (i64L 16711680)).put (.string kGreen) (i64L 32768)).put (.string kBlue) (i64L 255)
def namC (l : List UInt8) : Option Int := if l = kBlue then some 255 else if l = kGreen then some 32768 else if l = kRed then some 16711680 else if l = kWhite then some 16777215 else if l = kBlack then some 0 else none
def hexOk (l : List UInt8) : Bool := Lib.hasPrefix l [35] && (decide ((Lib.trimPrefix l [35]).length = 6) && (Lib.trimPrefix l [35]).all isHex)
def colOk (l : List UInt8) : Bool := (namC l).isSome || hexOk l
def colN (l : List UInt8) : Int := match namC l with | some n => n | none => if hexOk l = true then (hexV 0 (Lib.trimPrefix l [35]) : Int) else 0
theorem ismap_put {D : DataW Unit} (h : IsMap D) (k : Lit) (d : DataW Unit) : IsMap (D.put k d) := by
  obtain ⟨es, rfl⟩ := h
  exact ⟨_, rfl⟩
theorem col_at (l : List UInt8) : colD.atKey (.string l) (i64L 0) = i64L ((namC l).getD 0) ∧ Maps.has colD (.string l) = (namC l).isSome := by
  have m0 : IsMap (DataW.map ([] : List (Lit × DataW Unit))) := ⟨_, rfl⟩
  have m1 := ismap_put m0 (.string kBlack) (i64L 0)
  have m2 := ismap_put m1 (.string kWhite) (i64L 16777215)
  have m3 := ismap_put m2 (.string kRed) (i64L 16711680)
  have m4 := ismap_put m3 (.string kGreen) (i64L 32768)
  have kl : ∀ l, WideAt.IsKeyLit (.string l) := fun l => trivial
  have ne : ∀ {a b : List UInt8}, a ≠ b → (Lit.string a) ≠ (Lit.string b) := fun h e => h (by injection e)
  unfold colD namC
  by_cases h5 : l = kBlue
  · rw [if_pos h5, h5, atKey_put_same m4 (kl _), has_put_same m4 (kl _)]; exact ⟨rfl, rfl⟩
  · rw [if_neg h5, atKey_put_other (ne h5), has_put_other (ne h5)]
    by_cases h4 : l = kGreen
    · rw [if_pos h4, h4, atKey_put_same m3 (kl _), has_put_same m3 (kl _)]; exact ⟨rfl, rfl⟩
    · rw [if_neg h4, atKey_put_other (ne h4), has_put_other (ne h4)]
      by_cases h3 : l = kRed
      · rw [if_pos h3, h3, atKey_put_same m2 (kl _), has_put_same m2 (kl _)]; exact ⟨rfl, rfl⟩
      · rw [if_neg h3, atKey_put_other (ne h3), has_put_other (ne h3)]
        by_cases h2 : l = kWhite
        · rw [if_pos h2, h2, atKey_put_same m1 (kl _), has_put_same m1 (kl _)]; exact ⟨rfl, rfl⟩
        · rw [if_neg h2, atKey_put_other (ne h2), has_put_other (ne h2)]
          by_cases h1 : l = kBlack
          · rw [if_pos h1, h1, atKey_put_same m0 (kl _), has_put_same m0 (kl _)]; exact ⟨rfl, rfl⟩
          · rw [if_neg h1, atKey_put_other (ne h1), has_put_other (ne h1)]; exact ⟨rfl, rfl⟩
set_option maxHeartbeats 4000000 in
set_option maxRecDepth 100000 in
theorem colorC (l : List UInt8) (w : World) (hs : l.length < 4294967281) :
    Calls Tryz.prog 37 #[.string ⟨l.toArray⟩] w fun e w' => e = .returned (.tuple #[.int .i64 (colN l), .bool (colOk l)]) ∧ Below w.heap.size w w' := by
  have hmm := @run_makeMap Tryz.prog
  have hown := made_own w
  have hb0 : Below w.heap.size w (w.alloc (.map #[] 0)) := (Below.refl _ _).alloc (Nat.le_refl _) _
  obtain ⟨s, hS⟩ : ∃ s : ByteArray, ⟨l.toArray⟩ = s := ⟨_, rfl⟩
  have hl : s.data.toList = l := by rw [← hS]
  have hP := fun w => Tryz.strings_CutPrefix s ⟨#[35]⟩ w
  have hT := fun w => trim_hex (Lib.trimPrefix l [35]) w (by have := trimPrefix_len l [35]; omega)
  rw [hl, show (⟨#[35]⟩ : ByteArray).data.toList = [35] from rfl] at hP
  have hkey := keyOf_str (s := s) (by rw [← hS]; show l.length ≤ maxLen; unfold maxLen; omega)
  rw [hl] at hkey
  rw [hS]
  clear hS hl
  go_enter Tryz.func37, Tryz.ntmps37
  go_upto_region 2 with (refine wpList_insert_own _ rfl _ _ _ 63 rfl 9 2 lawS Tryz.underlying63 (plainElem (H := Unit) Tryz.prog 2) w.heap.size _ _ rfl (by assumption) (by decide) _ _ _ rfl rfl (keyOf_str (by decide)) _ [] (plainElem_int Tryz.underlying2 (by decide)) ?_; intro w1 hown hgrow; replace hb0 := hb0.grown hgrow hb0.size (fun j e => by cases e; exact Nat.le_refl _); clear hgrow)
  have hown : w1.ownsMap Tryz.prog 9 (plainElem (H := Unit) Tryz.prog 2) w.heap.size 5 colD := hown
  obtain ⟨q1, q2⟩ := col_at l
  have HO := Lib.hid hown
  have HB := Lib.hid hb0
  clear hb0 hmm
  clear hown
  go_upto_region 3 with (refine wpList_lookup_own_ok_int _ rfl _ _ 63 rfl 9 2 .i64 lawS Tryz.underlying63 Tryz.underlying2 (by kernel_rfl) w.heap.size 5 colD rfl HO.out _ _ rfl hkey ?_; intro c hat hwc; rw [q1] at hat; rw [q2]; rw [← i64L_inj hat]; clear hat hwc)
  obtain ⟨o, ho⟩ : ∃ o, namC l = o := ⟨_, rfl⟩
  rw [ho]
  clear q1 q2 HO hkey
  cases o with
  | some n =>
    have HK := Lib.hid (show colN l = n ∧ colOk l = true from ⟨by unfold colN; rw [ho], by unfold colOk; rw [ho]; rfl⟩)
    clear ho hP hT hs
    go_wp2
    go_ret2
    exact ⟨(show _ = Ending.returned (Value.tuple #[.int .i64 n, .bool true]) from rfl).trans (by rw [HK.out.1, HK.out.2]), HB.out⟩
  | none =>
    have HA := Lib.hid (show colOk l = (Lib.hasPrefix l [35] && (decide ((Lib.trimPrefix l [35]).length = 6) && (Lib.trimPrefix l [35]).all isHex)) by unfold colOk hexOk; rw [ho]; rfl)
    have HN := Lib.hid (show colN l = if colOk l = true then (hexV 0 (Lib.trimPrefix l [35]) : Int) else 0 by unfold colN colOk; rw [ho]; rfl)
    have hlen := trimPrefix_len l [35]
    obtain ⟨rest, hr⟩ : ∃ r, Lib.trimPrefix l [35] = r := ⟨_, rfl⟩
    obtain ⟨bl, hb⟩ : ∃ r, Lib.hasPrefix l [35] = r := ⟨_, rfl⟩
    have htn := trim_nil hexW isHex hex_contains rest
    rw [hr, hb] at HA
    rw [hr] at HN
    simp only [hr, hb] at hP hT hlen
    clear ho hr hb
    cases bl with
    | false =>
      have HK := Lib.hid (show colOk l = false ∧ colN l = 0 from ⟨by rw [HA.out]; rfl, by rw [HN.out, show colOk l = false by rw [HA.out]; rfl]; rfl⟩)
      clear HA HN hT htn hs hlen
      go_wp2_with (go_at_call 50; refine (hP _).mono ?_; rintro e w' ⟨rfl, rfl⟩)
      go_ret2
      exact ⟨(show _ = Ending.returned (Value.tuple #[.int .i64 0, .bool false]) from rfl).trans (by rw [HK.out.1, HK.out.2]), HB.out⟩
    | true =>
      have BAD : ∀ (_ : colOk l = false), Hid (colOk l = false ∧ colN l = 0) := fun h => Lib.hid ⟨h, by rw [HN.out, h]; rfl⟩
      have e4 := ba_nil (Lib.trimS rest hexW)
      by_cases h6 : rest.length = 6
      · have d6 : ((rest.length : Int) != 6) = false := by rw [h6]; rfl
        by_cases hh : rest.all isHex = true
        · rw [decide_eq_true (htn.2 hh)] at e4
          have hI := fun w => parse16 rest (fun e => by rw [e] at h6; cases h6) (by omega) hh w
          have HK := Lib.hid (show colOk l = true ∧ colN l = (hexV 0 rest : Int) from by
            have e : colOk l = true := by rw [HA.out, decide_eq_true h6, hh]; rfl
            exact ⟨e, by rw [HN.out, e]; rfl⟩)
          clear HA HN htn hs hlen hh h6 BAD
          generalize (Lib.trimS rest hexW) = tr at hT e4
          generalize (⟨tr.toArray⟩ : ByteArray) = tb at hT e4
          generalize (hexV 0 rest : Int) = z at hI HK
          go_wp2_with (first | (go_at_call 50; refine (hP _).mono ?_; rintro e w' ⟨rfl, rfl⟩) | (go_at_call 39; refine (hT _).mono ?_; rintro e w2 ⟨rfl, hB2⟩) | (go_at_call 51; refine (hI _).mono ?_; rintro e w3 ⟨rfl, hB3⟩))
          go_quiet (fail)
          go_wp2
          go_ret2
          have q2 := below_then HB.out HB.out.size hB2
          have q3 := below_then q2 q2.size hB3
          exact ⟨(show _ = Ending.returned (Value.tuple #[.int .i64 z, .bool true]) from rfl).trans (by rw [HK.out.1, HK.out.2]), pw_below_drewN q3 nq⟩
        · rw [decide_eq_false (fun e => hh (htn.1 e))] at e4
          have HK := BAD (by rw [HA.out, Bool.eq_false_iff.2 hh]; simp)
          clear HA HN htn hs hlen hh h6 BAD
          generalize (Lib.trimS rest hexW) = tr at hT e4
          generalize (⟨tr.toArray⟩ : ByteArray) = tb at hT e4
          go_wp2_with (first | (go_at_call 50; refine (hP _).mono ?_; rintro e w' ⟨rfl, rfl⟩) | (go_at_call 39; refine (hT _).mono ?_; rintro e w2 ⟨rfl, hB2⟩))
          go_ret2
          exact ⟨(show _ = Ending.returned (Value.tuple #[.int .i64 0, .bool false]) from rfl).trans (by rw [HK.out.1, HK.out.2]), below_then HB.out HB.out.size hB2⟩
      · have d6 : ((rest.length : Int) != 6) = true := bne_iff_ne.2 (by omega)
        have HK := BAD (by rw [HA.out, decide_eq_false h6]; rfl)
        clear HA HN htn hs hlen h6 BAD hT e4
        go_wp2_with (go_at_call 50; refine (hP _).mono ?_; rintro e w' ⟨rfl, rfl⟩)
        go_ret2
        exact ⟨(show _ = Ending.returned (Value.tuple #[.int .i64 0, .bool false]) from rfl).trans (by rw [HK.out.1, HK.out.2]), HB.out⟩
end Go.Proofs.Val
