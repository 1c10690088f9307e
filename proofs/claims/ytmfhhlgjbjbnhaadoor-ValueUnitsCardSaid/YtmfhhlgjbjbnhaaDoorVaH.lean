/- strconv.ParseInt at base 16, of texts of small hexadecimal digits: contracts proved by walking their text; no condition beside those that each theorem states. -/
import Derived.Test.YtmfhhlgjbjbnhaaDoorVaB
import Derived.Lib.ConvBytes
set_option linter.unusedVariables false
set_option linter.unusedSimpArgs false
namespace Go.Proofs.Val
open Go.RowKit Go.Proofs Go.Proofs.YtmfhhlgjbjbnhaaDoorW.PrintWords
def isHex (c : UInt8) : Bool := isDig c || (decide (97 ≤ c.toNat) && decide (c.toNat ≤ 102))
def hx (c : UInt8) : Nat := if c.toNat ≤ 57 then c.toNat - 48 else c.toNat - 87
def hexV (a : Nat) (l : List UInt8) : Nat := l.foldl (fun a c => a * 16 + hx c) a
theorem isHex_iff {c : UInt8} : isHex c = true ↔ (48 ≤ c.toNat ∧ c.toNat ≤ 57) ∨ (97 ≤ c.toNat ∧ c.toNat ≤ 102) := by simp [isHex, isDig]
theorem hx_lt {c : UInt8} (h : isHex c = true) : hx c < 16 := by
  rw [isHex_iff] at h
  unfold hx; split <;> omega
theorem hexV_snoc (a : Nat) (l : List UInt8) (c : UInt8) : hexV a (l ++ [c]) = hexV a l * 16 + hx c := by unfold hexV; rw [List.foldl_append]; rfl
theorem hexV_take_lt {l : List UInt8} (h : l.all isHex = true) : ∀ k, k ≤ l.length → hexV 0 (l.take k) < 16 ^ k
  | 0, _ => by simp [hexV]
  | k + 1, hk => by
    have ih := hexV_take_lt h k (by omega)
    rw [List.take_succ_eq_append_getElem (by omega), hexV_snoc, Nat.pow_succ]
    have := hx_lt (List.all_eq_true.1 h _ (List.getElem_mem (show k < l.length by omega)))
    omega
theorem hexV_take_succ {l : List UInt8} {k : Nat} (hk : k < l.length) : hexV 0 (l.take (k + 1)) = hexV 0 (l.take k) * 16 + hx (l.getD k 0) := by
  rw [List.take_succ_eq_append_getElem hk, hexV_snoc]
  simp [List.getD, List.getElem?_eq_getElem hk]
theorem hex_le6 {k : Nat} (h : k ≤ 6) : 16 ^ k ≤ 16777216 := by
  obtain rfl | rfl | rfl | rfl | rfl | rfl | rfl : k = 0 ∨ k = 1 ∨ k = 2 ∨ k = 3 ∨ k = 4 ∨ k = 5 ∨ k = 6 := by omega
  all_goals decide
set_option maxHeartbeats 4000000 in
set_option maxRecDepth 1000000 in
theorem parseU16 (l : List UInt8) (h1 : l ≠ []) (h6 : l.length ≤ 6) (hx' : l.all isHex = true) (w : World) :
    Calls Tryd.prog 91 #[.string ⟨l.toArray⟩, .int .i64 16, .int .i64 64] w fun e w' => e = .returned (.tuple #[.int .u64 (hexV 0 l : Int), .nilIface]) ∧ Below w.heap.size w w' := by
  have hconv := Lib.run_convert_string_bytes (P := Tryd.prog) w 9 83 5 ⟨l.toArray⟩ Tryd.underlying9 Tryd.underlying83 Tryd.underlying5
  have hcells := Lib.bytesWorld_cell w 5 ⟨l.toArray⟩
  have hbel := Lib.bytesWorld_below w 5 ⟨l.toArray⟩
  have e1 := ba_nil l
  rw [decide_eq_false h1] at e1
  have hsz := ba_size l
  obtain ⟨W1, hW1⟩ : ∃ W1, Lib.bytesWorld w 5 ⟨l.toArray⟩ = W1 := ⟨_, rfl⟩
  obtain ⟨cap, hcap⟩ : ∃ cap, grownCap w (⟨l.toArray⟩ : ByteArray).size 0 5 = cap := ⟨_, rfl⟩
  rw [hW1] at hconv hcells hbel
  rw [hcap] at hconv
  rw [hsz] at hconv hcells
  rw [show (⟨l.toArray⟩ : ByteArray).data.toList = l from rfl] at hcells
  have HC := Lib.hid hcells
  have HB := Lib.hid hbel
  clear hW1 hcap hcells hbel hsz
  obtain ⟨s, hS⟩ : ∃ s : ByteArray, ⟨l.toArray⟩ = s := ⟨_, rfl⟩
  rw [hS] at e1 hconv ⊢
  clear hS
  go_enter Tryd.func91, Tryd.ntmps91
  go_wp2
  have hm : IntKind.u64.wrap (IntKind.u64.wrap 18446744073709551616 - 1) = 18446744073709551615 := by decide
  rw [hm]
  clear hm hconv
  go_loopw [12, 13, 101] (fun u m i wr => ∃ k : Nat, k ≤ l.length ∧ i = .int .i64 k ∧ m = .int .u64 (hexV 0 (l.take k) : Int) ∧ u = .bool false ∧ wr = W1) (fun _ _ i _ => l.length - (RowKit.intOf i).toNat)
  case atStart => exact ⟨0, by omega, rfl, rfl, rfl, rfl⟩
  case round =>
    obtain ⟨k, hk, rfl, rfl, rfl, rfl⟩ := hrel
    have hnl := hexV_take_lt hx' k hk
    have hp := hex_le6 (Nat.le_trans hk h6)
    by_cases hlt : k < l.length
    · have hc := HC.out k hlt
      have hhex : isHex (l.getD k 0) = true := by
        have e : l.getD k 0 = l[k] := by simp [List.getD, List.getElem?_eq_getElem hlt]
        rw [e]
        exact List.all_eq_true.1 hx' _ (List.getElem_mem hlt)
      have hsuc := hexV_take_succ hlt
      obtain ⟨n, hn⟩ : ∃ n, hexV 0 (l.take k) = n := ⟨_, rfl⟩
      obtain ⟨c, hcc⟩ : ∃ c, l.getD k 0 = c := ⟨_, rfl⟩
      rw [hn] at hnl hsuc ⊢
      rw [hcc] at hc hhex hsuc
      have hn16 : n < 16777216 := by omega
      rw [isHex_iff] at hhex
      obtain ⟨z, hz⟩ : ∃ z : Int, (n : Int) = z := ⟨_, rfl⟩
      have bz : 0 ≤ z ∧ z < 16777216 := by omega
      have gz : decide ((1152921504606846976 : Int) ≤ z) = false := decide_eq_false (by omega)
      rw [hz]
      have HS := Lib.hid (show (hexV 0 (l.take (k + 1)) : Int) = z * 16 + (hx c : Int) by rw [hsuc, ← hz]; omega)
      clear hn hcc hp hnl hsuc hz hn16
      by_cases hd : c.toNat ≤ 57
      · have HV := Lib.hid (show hx c = c.toNat - 48 by unfold hx; rw [if_pos hd])
        have hlo : 48 ≤ c.toNat := by omega
        obtain ⟨x, hxx⟩ : ∃ x : Int, (c.toNat : Int) = x := ⟨_, rfl⟩
        have HX := Lib.hid hxx
        rw [hxx] at hc
        have b1 : 48 ≤ x ∧ x ≤ 57 := by omega
        have g0 : (x == 95) = false := beq_eq_false_iff_ne.2 (by omega)
        have g1 : decide ((48 : Int) ≤ x) = true := decide_eq_true (by omega)
        have g2 : decide (x ≤ (57 : Int)) = true := decide_eq_true (by omega)
        clear hhex hd hlo hxx
        go_wp2
        refine ⟨⟨k + 1, by omega, by go_num, ?_, rfl, trivial⟩, by simp [RowKit.intOf]; omega⟩
        rw [HS.out, HV.out]
        congr 1
        have := HX.out
        omega
      · have HV := Lib.hid (show hx c = c.toNat - 87 by unfold hx; rw [if_neg hd])
        obtain ⟨x, hxx⟩ : ∃ x : Int, (c.toNat : Int) = x := ⟨_, rfl⟩
        have HX := Lib.hid hxx
        rw [hxx] at hc
        have b1 : 97 ≤ x ∧ x ≤ 102 := by omega
        have hlow : bits .or .u8 x 32 = x := by
          obtain rfl | rfl | rfl | rfl | rfl | rfl : x = 97 ∨ x = 98 ∨ x = 99 ∨ x = 100 ∨ x = 101 ∨ x = 102 := by omega
          all_goals decide
        have g0 : (x == 95) = false := beq_eq_false_iff_ne.2 (by omega)
        have g1 : decide ((48 : Int) ≤ x) = true := decide_eq_true (by omega)
        have g2 : decide (x ≤ (57 : Int)) = false := decide_eq_false (by omega)
        have g3 : decide ((97 : Int) ≤ x) = true := decide_eq_true (by omega)
        have g4 : decide (x ≤ (122 : Int)) = true := decide_eq_true (by omega)
        clear hhex hd hxx
        go_wp2_with (go_at_call 102; refine (Tryd.internal_strconv_lower _ _).mono ?_; rintro e w' ⟨rfl, rfl⟩; rw [hlow])
        refine ⟨⟨k + 1, by omega, by go_num, ?_, rfl, trivial⟩, by simp [RowKit.intOf]; omega⟩
        rw [HS.out, HV.out]
        congr 1
        have := HX.out
        omega
    · obtain rfl : k = l.length := by omega
      rw [List.take_length] at hnl ⊢
      obtain ⟨z, hz⟩ : ∃ z : Int, (hexV 0 l : Int) = z := ⟨_, rfl⟩
      rw [hz]
      have HZ := Lib.hid hz
      clear hnl hp hx' HC hz
      go_wp2
      go_ret2
      exact ⟨(show _ = Ending.returned (Value.tuple #[.int .u64 z, .nilIface]) from rfl).trans (by rw [HZ.out]), HB.out⟩
set_option maxHeartbeats 4000000 in
set_option maxRecDepth 100000 in
theorem parseI16 (l : List UInt8) (h1 : l ≠ []) (h6 : l.length ≤ 6) (hx' : l.all isHex = true) (w : World) :
    Calls Tryd.prog 81 #[.string ⟨l.toArray⟩, .int .i64 16, .int .i64 64] w fun e w' => e = .returned (.tuple #[.int .i64 (hexV 0 l : Int), .nilIface]) ∧ Below w.heap.size w w' := by
  have hU := fun w => parseU16 l h1 h6 hx' w
  have hb := hexV_take_lt hx' l.length (Nat.le_refl _)
  have hp := hex_le6 h6
  rw [List.take_length] at hb
  obtain ⟨z, hz⟩ : ∃ z : Int, (hexV 0 l : Int) = z := ⟨_, rfl⟩
  have bz : 0 ≤ z ∧ z < 16777216 := by omega
  simp only [hz] at hU ⊢
  obtain ⟨c, r, rfl⟩ := List.exists_cons_of_ne_nil h1
  have hc : isHex c = true := by
    rw [List.all_cons, Bool.and_eq_true] at hx'
    exact hx'.1
  rw [isHex_iff] at hc
  have e1 := ba_nil (c :: r)
  rw [decide_eq_false h1] at e1
  have e2 := ba_size (c :: r)
  clear hb hp hz hx' h1 h6
  go_enter Tryd.func81, Tryd.ntmps81
  go_upto_region 5 with (fail)
  have eb : ∀ h, ((⟨(c :: r).toArray⟩ : ByteArray)[0]'h) = c := fun h => rfl
  simp only [eb]
  obtain ⟨x, hxx⟩ : ∃ x : Int, (c.toNat : Int) = x := ⟨_, rfl⟩
  rw [hxx]
  have g0 : (x == 43) = false := beq_eq_false_iff_ne.2 (by omega)
  have g1 : (x == 45) = false := beq_eq_false_iff_ne.2 (by omega)
  have g2 : decide ((9223372036854775808 : Int) ≤ z) = false := decide_eq_false (by omega)
  clear eb hxx hc e1 e2
  generalize (⟨(c :: r).toArray⟩ : ByteArray) = s at hU ⊢
  go_wp2_with (go_at_call 91; refine (hU _).mono ?_; rintro e w' ⟨rfl, hB⟩)
  go_ret2
  exact ⟨rfl, hB⟩
set_option maxHeartbeats 1000000 in
theorem parse16 (l : List UInt8) (h1 : l ≠ []) (h6 : l.length ≤ 6) (hx' : l.all isHex = true) (w : World) :
    Calls Tryd.prog 64 #[.string ⟨l.toArray⟩, .int .i64 16, .int .i64 64] w fun e w' => e = .returned (.tuple #[.int .i64 (hexV 0 l : Int), .nilIface]) ∧ Below w.heap.size w w' := by
  have hU := fun w => parseI16 l h1 h6 hx' w
  generalize (⟨l.toArray⟩ : ByteArray) = s at hU ⊢
  generalize (hexV 0 l : Int) = z at hU ⊢
  go_enter Tryd.func64, Tryd.ntmps64
  go_wp2_with (go_at_call 81; refine (hU _).mono ?_; rintro e w' ⟨rfl, hB⟩)
  go_ret2
  exact ⟨rfl, hB⟩
end Go.Proofs.Val
