/- scrimlaw08.ValueUnits of any two numbers: true; its text walked; no condition beside those that each theorem states. -/
import Derived.Test.YtmfhhlgjbjbnhaaDoorPVu
import Derived.Test.YtmfhhlgjbjbnhaaDoorPVa
set_option linter.unusedVariables false
set_option linter.unusedSimpArgs false
namespace Go.Proofs.YtmfhhlgjbjbnhaaDoor.HU
attribute [local go_sem high] HV.eqA23
open Go Go.RowKit Go.Proofs Go.Proofs.Val Go.Proofs.YtmfhhlgjbjbnhaaDoorW.PrintWords
def tenW : ByteArray := ⟨#[48, 49, 50, 51, 52, 53, 54, 55, 56, 57]⟩
theorem ten_at : ∀ d : Fin 10, (⟨#[48, 49, 50, 51, 52, 53, 54, 55, 56, 57]⟩ : ByteArray).extract d.val (d.val + 1) = ⟨#[UInt8.ofNat (48 + d.val)]⟩ := by decide +kernel
/-- when k digits are laid -/
def DigAt (n : Nat) (k : Nat) (t : List UInt8) : Prop := t.length = k ∧ t.all isDig = true ∧ decV 0 t = n % 10 ^ k
theorem DigAt.next {n k : Nat} {t : List UInt8} (h : DigAt n k t) : DigAt n (k + 1) (UInt8.ofNat (48 + n / 10 ^ k % 10) :: t) := by
  obtain ⟨h1, h2, h3⟩ := h
  have hd : n / 10 ^ k % 10 < 10 := Nat.mod_lt _ (by omega)
  have ht : (UInt8.ofNat (48 + n / 10 ^ k % 10)).toNat = 48 + n / 10 ^ k % 10 := by rw [UInt8.toNat_ofNat']; omega
  refine ⟨by simp [h1], ?_, ?_⟩
  · rw [List.all_cons, h2, Bool.and_true, isDig_iff, ht]; omega
  · rw [decV_cons, decV_acc, h1, h3, ht, Nat.pow_succ, Nat.mod_mul]
    rw [show 0 * 10 + (48 + n / 10 ^ k % 10 - 48) = n / 10 ^ k % 10 by omega, Nat.mul_comm]
    omega
def emptyN (v : Value) : Nat := match v with | .string s => if s.size = 0 then 1 else 0 | _ => 0
set_option maxHeartbeats 8000000 in
set_option maxRecDepth 100000 in
theorem unitsC (n q : Int) (w : World) (hT : Tbs w) :
    Calls Tryd.prog 6 #[.int .i64 n, .int .i64 q] w fun e w' => e = .returned (.bool true) ∧ Below w.heap.size w w' := by
  have hAw := fun w hT => HV.scrimlaw08_awake.calls true rfl w Pure.awake hT
  go_enter Tryd.func6, Tryd.ntmps6
  go_upto_region 3 with (go_at_call 13; refine (hAw _ hT).mono ?_; rintro e w1 ⟨rfl, hB1⟩)
  by_cases h1 : n < 0
  · have d1 : decide (n < 0) = true := decide_eq_true h1
    go_wp2
    go_ret
    exact ⟨rfl, hB1⟩
  have d1 : decide (n < 0) = false := decide_eq_false h1
  by_cases h2 : 999999999 < n
  · have d2 : decide (999999999 < n) = true := decide_eq_true h2
    go_wp2
    go_ret
    exact ⟨rfl, hB1⟩
  have d2 : decide (999999999 < n) = false := decide_eq_false h2
  by_cases h3 : q < 0
  · have d3 : decide (q < 0) = true := decide_eq_true h3
    go_wp2
    go_ret
    exact ⟨rfl, hB1⟩
  have d3 : decide (q < 0) = false := decide_eq_false h3
  by_cases h4 : 3 < q
  · have d4 : decide (3 < q) = true := decide_eq_true h4
    go_wp2
    go_ret
    exact ⟨rfl, hB1⟩
  have d4 : decide (3 < q) = false := decide_eq_false h4
  obtain ⟨n, rfl⟩ : ∃ m : Nat, n = (m : Int) := ⟨n.toNat, by omega⟩
  have hn9 : n ≤ 999999999 := by omega
  clear hAw
  go_wp2
  have HB1 := Lib.hid hB1
  clear hB1 d1 d2 h1 h2
  go_loop [5, 6] (fun s m => ∃ (k : Nat) (t : List UInt8), k ≤ 9 ∧ m = .int .i64 ((n / 10 ^ k : Nat) : Int) ∧ s = .string ⟨t.toArray⟩ ∧ Hid (DigAt n k t)) (fun s m => (RowKit.intOf m).toNat + emptyN s)
  case atStart => exact ⟨0, [], by omega, by simp, rfl, Lib.hid ⟨rfl, rfl, by simp [decV, Nat.mod_one]⟩⟩
  case round =>
    obtain ⟨k, t, hk, rfl, rfl, D⟩ := hrel
    have e1 := ba_nil t
    have es := ba_size t
    have e2 : (⟨t.toArray⟩ : ByteArray).toList.isEmpty = decide (t = []) := by rw [Lib.toList_data]; cases t <;> simp
    have e3 : t.isEmpty = decide (t = []) := by cases t <;> simp
    have hk9 : 0 < n / 10 ^ k → k < 9 := fun h => by
      rcases Nat.lt_or_ge k 9 with h' | h'
      · exact h'
      · have hp : 10 ^ 9 ≤ 10 ^ k := Nat.pow_le_pow_right (by omega) h'
        have h9 : (10 : Nat) ^ 9 = 1000000000 := by decide
        rw [Nat.div_eq_of_lt (by omega)] at h
        omega
    have hlen := D.out.1
    have hS := ten_at ⟨n / 10 ^ k % 10, Nat.mod_lt _ (by omega)⟩
    have DN := Lib.hid D.out.next
    have HD := Lib.hid (show n / 10 ^ (k + 1) = n / 10 ^ k / 10 by rw [Nat.pow_succ, Nat.div_div_eq_div_mul])
    have hx9 : n / 10 ^ k ≤ 999999999 := Nat.le_trans (Nat.div_le_self _ _) hn9
    have hx0 : t = [] → k = 0 := fun h => by rw [h] at hlen; exact hlen.symm
    obtain ⟨x, hx⟩ : ∃ x, n / 10 ^ k = x := ⟨_, rfl⟩
    have HX := Lib.hid hx
    rw [hx] at hk9 hS DN hx9 HD ⊢
    simp only at hS
    obtain ⟨d, hd⟩ : ∃ d : UInt8, UInt8.ofNat (48 + x % 10) = d := ⟨_, rfl⟩
    rw [hd] at hS DN
    have ez : ((x : Int) % 10).toNat = x % 10 := by omega
    have ez2 : ((x : Int) % 10 + 1).toNat = x % 10 + 1 := by omega
    have ez3 : (x : Int) % 10 + 1 ≤ 10 ∧ 0 ≤ (x : Int) % 10 := by omega
    have hk1 : (⟨#[d]⟩ : ByteArray).size + (⟨t.toArray⟩ : ByteArray).size ≤ 9223372036854775807 := by rw [es]; show 1 + _ ≤ _; omega
    have hap : (⟨#[d]⟩ : ByteArray) ++ ⟨t.toArray⟩ = ⟨(d :: t).toArray⟩ := ba_app [d] t
    have HAP := Lib.hid hap
    clear hap hx hd
    have EM : emptyN (.string ⟨(d :: t).toArray⟩) = 0 := by
      show (if (⟨(d :: t).toArray⟩ : ByteArray).size = 0 then 1 else 0) = 0
      rw [if_neg (by rw [ba_size]; simp)]
    have EN : t = [] → emptyN (.string ⟨t.toArray⟩) = 1 := fun h => by
      show (if (⟨t.toArray⟩ : ByteArray).size = 0 then 1 else 0) = 1
      rw [if_pos (by rw [ba_size, h]; rfl)]
    by_cases hp : 0 < x
    · have g1 : decide (0 < (x : Int)) = true := decide_eq_true (by omega)
      have hk8 := hk9 hp
      have HE := Lib.hid (And.intro EM EN)
      clear hk9 e1 e2 e3 D hx0 EM EN hlen
      go_wp2
      refine ⟨⟨k + 1, d :: t, by omega, by rw [HD.out]; congr 1, by rw [HAP.out], DN⟩, ?_⟩
      · show ((RowKit.intOf (.int .i64 ((x : Int) / 10))).toNat + emptyN (.string ((⟨#[d]⟩ : ByteArray) ++ ⟨t.toArray⟩))) < (RowKit.intOf (.int .i64 (x : Int))).toNat + emptyN (.string ⟨t.toArray⟩)
        rw [HAP.out]
        have q1 : (RowKit.intOf (.int .i64 ((x : Int) / 10))) = (x : Int) / 10 := rfl
        have q2 : (RowKit.intOf (.int .i64 (x : Int))) = (x : Int) := rfl
        rw [q1, q2, HE.out.1]
        omega
    · have g1 : decide (0 < (x : Int)) = false := decide_eq_false (by omega)
      have hx00 : x = 0 := by omega
      subst hx00
      have hS0 : (⟨#[48, 49, 50, 51, 52, 53, 54, 55, 56, 57]⟩ : ByteArray).extract 0 1 = ⟨#[d]⟩ := hS
      clear ez ez2 ez3
      by_cases ht : t = []
      · rw [decide_eq_true ht] at e1 e2 e3
        have hk0 := hx0 ht
        have HE := Lib.hid (And.intro EM (EN ht))
        clear hk9 D hx0 EM EN hlen ht
        go_wp2
        refine ⟨⟨k + 1, d :: t, by omega, by rw [HD.out]; congr 1, by rw [HAP.out], DN⟩, ?_⟩
        · show ((RowKit.intOf (.int .i64 (0))).toNat + emptyN (.string ((⟨#[d]⟩ : ByteArray) ++ ⟨t.toArray⟩))) < (RowKit.intOf (.int .i64 0)).toNat + emptyN (.string ⟨t.toArray⟩)
          rw [HAP.out]
          have q1 : (RowKit.intOf (.int .i64 (0))) = 0 := rfl
          rw [q1, HE.out.1, HE.out.2]
          omega
      · rw [decide_eq_false ht] at e1 e2 e3
        have hdig : digB t 9 = true := digB_iff.2 ⟨ht, by omega, D.out.2.1⟩
        have hval : decV 0 t = n := by
          rw [D.out.2.2, Nat.mod_eq_of_lt]
          have h0 := HX.out
          rcases Nat.lt_or_ge n (10 ^ k) with h' | h'
          · exact h'
          · have := Nat.div_pos h' (Nat.pow_pos (by omega))
            omega
        obtain ⟨u, rfl⟩ : ∃ u : Nat, q = (u : Int) := ⟨q.toNat, by omega⟩
        have hu : u < 4 := by omega
        have R1 := px_read t hdig u hu false
        have R2 := px_read t hdig u hu true
        have R3 := pc_read t hdig u hu
        rw [hval] at R1 R2 R3
        have hlt : t.length ≤ 9 := by omega
        clear hk9 D hx0 EM EN hlen DN HD HAP hS hS0 hk1 HX d3 d4 h3 h4
        have hT1 := ba_size t
        obtain rfl | rfl | rfl | rfl : u = 0 ∨ u = 1 ∨ u = 2 ∨ u = 3 := by omega
        · have iq : ∀ w, (Instr.index 47 (.agg #[.string ⟨#[]⟩, .string ⟨#[46, 50, 53]⟩, .string ⟨#[46, 53, 48]⟩, .string ⟨#[46, 55, 53]⟩]) (.int .i64 0)).run Tryd.prog w = .ok (.string ⟨#[]⟩) w := fun _ => by kernel_rfl
          have a1 : (⟨t.toArray⟩ : ByteArray) ++ ⟨#[]⟩ = ⟨(t ++ quarL 0).toArray⟩ := ba_app t (quarL 0)
          have a2 : (⟨(t ++ quarL 0).toArray⟩ : ByteArray).size ≤ 12 := by rw [ba_size, List.length_append]; show t.length + 0 ≤ 12; omega
          have k1 : (⟨t.toArray⟩ : ByteArray).size + (⟨#[]⟩ : ByteArray).size ≤ 9223372036854775807 := by rw [hT1]; show t.length + 0 ≤ _; omega
          have b1 : (⟨(t ++ quarL 0).toArray⟩ : ByteArray) ++ ⟨#[112, 120]⟩ = ⟨((if false = true then [45] else []) ++ t ++ quarL 0 ++ [112, 120]).toArray⟩ := ba_app (t ++ quarL 0) [112, 120]
          have b2 : (⟨#[45]⟩ : ByteArray) ++ ⟨(t ++ quarL 0).toArray⟩ ++ ⟨#[112, 120]⟩ = ⟨((if true = true then [45] else []) ++ t ++ quarL 0 ++ [112, 120]).toArray⟩ :=
            (congrArg (· ++ (⟨#[112, 120]⟩ : ByteArray)) (ba_app [45] (t ++ quarL 0))).trans ((ba_app ([45] ++ (t ++ quarL 0)) [112, 120]).trans (by rw [if_pos rfl]; simp))
          have b3 : (⟨(t ++ quarL 0).toArray⟩ : ByteArray) ++ ⟨#[37]⟩ = ⟨(t ++ quarL 0 ++ [37]).toArray⟩ := ba_app (t ++ quarL 0) [37]
          rw [← b1] at R1
          rw [← b2] at R2
          rw [← b3] at R3
          obtain ⟨XB, hXB⟩ : ∃ XB : ByteArray, ⟨(t ++ quarL 0).toArray⟩ = XB := ⟨_, rfl⟩
          rw [hXB] at R1 R2 R3 a1 a2
          have eV : (n : Int) * 64 + ((0 : Nat) : Int) * 16 = (n : Int) * 64 := by omega
          rw [eV] at R1 R2 R3
          rw [if_neg (by simp)] at R1
          rw [if_pos rfl] at R2
          have s1 : XB.size + (⟨#[112, 120]⟩ : ByteArray).size ≤ 9223372036854775807 := by show XB.size + 2 ≤ _; omega
          have s2 : (⟨#[45]⟩ : ByteArray).size + XB.size ≤ 9223372036854775807 := by show 1 + XB.size ≤ _; omega
          have s3 : ((⟨#[45]⟩ : ByteArray) ++ XB).size + (⟨#[112, 120]⟩ : ByteArray).size ≤ 9223372036854775807 := by rw [ByteArray.size_append]; show 1 + XB.size + 2 ≤ _; omega
          have s4 : XB.size + (⟨#[37]⟩ : ByteArray).size ≤ 9223372036854775807 := by show XB.size + 1 ≤ _; omega
          have C1 := fun w => readC 25 (XB ++ ⟨#[112, 120]⟩) w (by rw [ByteArray.size_append]; show XB.size + 2 < _; omega)
          have C2 := fun w => readC 25 ((⟨#[45]⟩ : ByteArray) ++ XB ++ ⟨#[112, 120]⟩) w (by rw [ByteArray.size_append, ByteArray.size_append]; show 1 + XB.size + 2 < _; omega)
          have C3 := fun w => readC 3 (XB ++ ⟨#[37]⟩) w (by rw [ByteArray.size_append]; show XB.size + 1 < _; omega)
          simp only [R1] at C1
          simp only [R2] at C2
          simp only [R3] at C3
          obtain ⟨V, hV⟩ : ∃ V : Int, (n : Int) * 64 = V := ⟨_, rfl⟩
          rw [hV] at C1 C2 C3
          have v1 : 0 ≤ V ∧ V ≤ 64000000000 := by omega
          have HV := Lib.hid hV
          clear b1 b2 b3 R1 R2 R3 hXB hdig hval eV hV
          go_upto_region 12 with (fail)
          rw [HV.out]
          clear HV iq a1 k1 hT1 hlt hn9 e1 e2 e3 es
          go_wp2_with (go_at_call 15; first | ((with_reducible refine (C1 _).mono ?_); rintro e w2 ⟨rfl, hB2⟩; obtain ⟨hc2, hf2⟩ := bcell hB2) | ((with_reducible refine (C2 _).mono ?_); rintro e w3 ⟨rfl, hB3⟩; obtain ⟨hc3, hf3⟩ := bcell hB3; have z3 : w2.heap.size < w3.heap.size := (by have q := hB3.size; rw [alloc_size] at q; exact q)) | ((with_reducible refine (C3 _).mono ?_); rintro e w4 ⟨rfl, hB4⟩; obtain ⟨hc4, hf4⟩ := bcell hB4; have z4 : w3.heap.size < w4.heap.size := (by have q := hB4.size; rw [alloc_size] at q; exact q); have z5 : w2.heap.size < w4.heap.size := (by omega)))
          go_ret
          have p2 := below_then HB1.out HB1.out.size hB2
          have p3 := below_then (below_alloc p2 _) (below_alloc p2 _).size hB3
          have p4 := below_then (below_alloc p3 _) (below_alloc p3 _).size hB4
          exact ⟨by first | rfl | (simp; done), by first | exact below_alloc p4 _ | exact pw_below_drewN (below_alloc p4 _) _⟩
        · have iq : ∀ w, (Instr.index 47 (.agg #[.string ⟨#[]⟩, .string ⟨#[46, 50, 53]⟩, .string ⟨#[46, 53, 48]⟩, .string ⟨#[46, 55, 53]⟩]) (.int .i64 1)).run Tryd.prog w = .ok (.string ⟨#[46, 50, 53]⟩) w := fun _ => by kernel_rfl
          have a1 : (⟨t.toArray⟩ : ByteArray) ++ ⟨#[46, 50, 53]⟩ = ⟨(t ++ quarL 1).toArray⟩ := ba_app t (quarL 1)
          have a2 : (⟨(t ++ quarL 1).toArray⟩ : ByteArray).size ≤ 12 := by rw [ba_size, List.length_append]; show t.length + 3 ≤ 12; omega
          have k1 : (⟨t.toArray⟩ : ByteArray).size + (⟨#[46, 50, 53]⟩ : ByteArray).size ≤ 9223372036854775807 := by rw [hT1]; show t.length + 3 ≤ _; omega
          have b1 : (⟨(t ++ quarL 1).toArray⟩ : ByteArray) ++ ⟨#[112, 120]⟩ = ⟨((if false = true then [45] else []) ++ t ++ quarL 1 ++ [112, 120]).toArray⟩ := ba_app (t ++ quarL 1) [112, 120]
          have b2 : (⟨#[45]⟩ : ByteArray) ++ ⟨(t ++ quarL 1).toArray⟩ ++ ⟨#[112, 120]⟩ = ⟨((if true = true then [45] else []) ++ t ++ quarL 1 ++ [112, 120]).toArray⟩ :=
            (congrArg (· ++ (⟨#[112, 120]⟩ : ByteArray)) (ba_app [45] (t ++ quarL 1))).trans ((ba_app ([45] ++ (t ++ quarL 1)) [112, 120]).trans (by rw [if_pos rfl]; simp))
          have b3 : (⟨(t ++ quarL 1).toArray⟩ : ByteArray) ++ ⟨#[37]⟩ = ⟨(t ++ quarL 1 ++ [37]).toArray⟩ := ba_app (t ++ quarL 1) [37]
          rw [← b1] at R1
          rw [← b2] at R2
          rw [← b3] at R3
          obtain ⟨XB, hXB⟩ : ∃ XB : ByteArray, ⟨(t ++ quarL 1).toArray⟩ = XB := ⟨_, rfl⟩
          rw [hXB] at R1 R2 R3 a1 a2
          have eV : (n : Int) * 64 + ((1 : Nat) : Int) * 16 = (n : Int) * 64 + 16 := by omega
          rw [eV] at R1 R2 R3
          rw [if_neg (by simp)] at R1
          rw [if_pos rfl] at R2
          have s1 : XB.size + (⟨#[112, 120]⟩ : ByteArray).size ≤ 9223372036854775807 := by show XB.size + 2 ≤ _; omega
          have s2 : (⟨#[45]⟩ : ByteArray).size + XB.size ≤ 9223372036854775807 := by show 1 + XB.size ≤ _; omega
          have s3 : ((⟨#[45]⟩ : ByteArray) ++ XB).size + (⟨#[112, 120]⟩ : ByteArray).size ≤ 9223372036854775807 := by rw [ByteArray.size_append]; show 1 + XB.size + 2 ≤ _; omega
          have s4 : XB.size + (⟨#[37]⟩ : ByteArray).size ≤ 9223372036854775807 := by show XB.size + 1 ≤ _; omega
          have C1 := fun w => readC 25 (XB ++ ⟨#[112, 120]⟩) w (by rw [ByteArray.size_append]; show XB.size + 2 < _; omega)
          have C2 := fun w => readC 25 ((⟨#[45]⟩ : ByteArray) ++ XB ++ ⟨#[112, 120]⟩) w (by rw [ByteArray.size_append, ByteArray.size_append]; show 1 + XB.size + 2 < _; omega)
          have C3 := fun w => readC 3 (XB ++ ⟨#[37]⟩) w (by rw [ByteArray.size_append]; show XB.size + 1 < _; omega)
          simp only [R1] at C1
          simp only [R2] at C2
          simp only [R3] at C3
          obtain ⟨V, hV⟩ : ∃ V : Int, (n : Int) * 64 + 16 = V := ⟨_, rfl⟩
          rw [hV] at C1 C2 C3
          have v1 : 0 ≤ V ∧ V ≤ 64000000000 := by omega
          have HV := Lib.hid hV
          clear b1 b2 b3 R1 R2 R3 hXB hdig hval eV hV
          go_upto_region 12 with (fail)
          rw [HV.out]
          clear HV iq a1 k1 hT1 hlt hn9 e1 e2 e3 es
          go_wp2_with (go_at_call 15; first | ((with_reducible refine (C1 _).mono ?_); rintro e w2 ⟨rfl, hB2⟩; obtain ⟨hc2, hf2⟩ := bcell hB2) | ((with_reducible refine (C2 _).mono ?_); rintro e w3 ⟨rfl, hB3⟩; obtain ⟨hc3, hf3⟩ := bcell hB3; have z3 : w2.heap.size < w3.heap.size := (by have q := hB3.size; rw [alloc_size] at q; exact q)) | ((with_reducible refine (C3 _).mono ?_); rintro e w4 ⟨rfl, hB4⟩; obtain ⟨hc4, hf4⟩ := bcell hB4; have z4 : w3.heap.size < w4.heap.size := (by have q := hB4.size; rw [alloc_size] at q; exact q); have z5 : w2.heap.size < w4.heap.size := (by omega)))
          go_ret
          have p2 := below_then HB1.out HB1.out.size hB2
          have p3 := below_then (below_alloc p2 _) (below_alloc p2 _).size hB3
          have p4 := below_then (below_alloc p3 _) (below_alloc p3 _).size hB4
          exact ⟨by first | rfl | (simp; done), by first | exact below_alloc p4 _ | exact pw_below_drewN (below_alloc p4 _) _⟩
        · have iq : ∀ w, (Instr.index 47 (.agg #[.string ⟨#[]⟩, .string ⟨#[46, 50, 53]⟩, .string ⟨#[46, 53, 48]⟩, .string ⟨#[46, 55, 53]⟩]) (.int .i64 2)).run Tryd.prog w = .ok (.string ⟨#[46, 53, 48]⟩) w := fun _ => by kernel_rfl
          have a1 : (⟨t.toArray⟩ : ByteArray) ++ ⟨#[46, 53, 48]⟩ = ⟨(t ++ quarL 2).toArray⟩ := ba_app t (quarL 2)
          have a2 : (⟨(t ++ quarL 2).toArray⟩ : ByteArray).size ≤ 12 := by rw [ba_size, List.length_append]; show t.length + 3 ≤ 12; omega
          have k1 : (⟨t.toArray⟩ : ByteArray).size + (⟨#[46, 53, 48]⟩ : ByteArray).size ≤ 9223372036854775807 := by rw [hT1]; show t.length + 3 ≤ _; omega
          have b1 : (⟨(t ++ quarL 2).toArray⟩ : ByteArray) ++ ⟨#[112, 120]⟩ = ⟨((if false = true then [45] else []) ++ t ++ quarL 2 ++ [112, 120]).toArray⟩ := ba_app (t ++ quarL 2) [112, 120]
          have b2 : (⟨#[45]⟩ : ByteArray) ++ ⟨(t ++ quarL 2).toArray⟩ ++ ⟨#[112, 120]⟩ = ⟨((if true = true then [45] else []) ++ t ++ quarL 2 ++ [112, 120]).toArray⟩ :=
            (congrArg (· ++ (⟨#[112, 120]⟩ : ByteArray)) (ba_app [45] (t ++ quarL 2))).trans ((ba_app ([45] ++ (t ++ quarL 2)) [112, 120]).trans (by rw [if_pos rfl]; simp))
          have b3 : (⟨(t ++ quarL 2).toArray⟩ : ByteArray) ++ ⟨#[37]⟩ = ⟨(t ++ quarL 2 ++ [37]).toArray⟩ := ba_app (t ++ quarL 2) [37]
          rw [← b1] at R1
          rw [← b2] at R2
          rw [← b3] at R3
          obtain ⟨XB, hXB⟩ : ∃ XB : ByteArray, ⟨(t ++ quarL 2).toArray⟩ = XB := ⟨_, rfl⟩
          rw [hXB] at R1 R2 R3 a1 a2
          have eV : (n : Int) * 64 + ((2 : Nat) : Int) * 16 = (n : Int) * 64 + 32 := by omega
          rw [eV] at R1 R2 R3
          rw [if_neg (by simp)] at R1
          rw [if_pos rfl] at R2
          have s1 : XB.size + (⟨#[112, 120]⟩ : ByteArray).size ≤ 9223372036854775807 := by show XB.size + 2 ≤ _; omega
          have s2 : (⟨#[45]⟩ : ByteArray).size + XB.size ≤ 9223372036854775807 := by show 1 + XB.size ≤ _; omega
          have s3 : ((⟨#[45]⟩ : ByteArray) ++ XB).size + (⟨#[112, 120]⟩ : ByteArray).size ≤ 9223372036854775807 := by rw [ByteArray.size_append]; show 1 + XB.size + 2 ≤ _; omega
          have s4 : XB.size + (⟨#[37]⟩ : ByteArray).size ≤ 9223372036854775807 := by show XB.size + 1 ≤ _; omega
          have C1 := fun w => readC 25 (XB ++ ⟨#[112, 120]⟩) w (by rw [ByteArray.size_append]; show XB.size + 2 < _; omega)
          have C2 := fun w => readC 25 ((⟨#[45]⟩ : ByteArray) ++ XB ++ ⟨#[112, 120]⟩) w (by rw [ByteArray.size_append, ByteArray.size_append]; show 1 + XB.size + 2 < _; omega)
          have C3 := fun w => readC 3 (XB ++ ⟨#[37]⟩) w (by rw [ByteArray.size_append]; show XB.size + 1 < _; omega)
          simp only [R1] at C1
          simp only [R2] at C2
          simp only [R3] at C3
          obtain ⟨V, hV⟩ : ∃ V : Int, (n : Int) * 64 + 32 = V := ⟨_, rfl⟩
          rw [hV] at C1 C2 C3
          have v1 : 0 ≤ V ∧ V ≤ 64000000000 := by omega
          have HV := Lib.hid hV
          clear b1 b2 b3 R1 R2 R3 hXB hdig hval eV hV
          go_upto_region 12 with (fail)
          rw [HV.out]
          clear HV iq a1 k1 hT1 hlt hn9 e1 e2 e3 es
          go_wp2_with (go_at_call 15; first | ((with_reducible refine (C1 _).mono ?_); rintro e w2 ⟨rfl, hB2⟩; obtain ⟨hc2, hf2⟩ := bcell hB2) | ((with_reducible refine (C2 _).mono ?_); rintro e w3 ⟨rfl, hB3⟩; obtain ⟨hc3, hf3⟩ := bcell hB3; have z3 : w2.heap.size < w3.heap.size := (by have q := hB3.size; rw [alloc_size] at q; exact q)) | ((with_reducible refine (C3 _).mono ?_); rintro e w4 ⟨rfl, hB4⟩; obtain ⟨hc4, hf4⟩ := bcell hB4; have z4 : w3.heap.size < w4.heap.size := (by have q := hB4.size; rw [alloc_size] at q; exact q); have z5 : w2.heap.size < w4.heap.size := (by omega)))
          go_ret
          have p2 := below_then HB1.out HB1.out.size hB2
          have p3 := below_then (below_alloc p2 _) (below_alloc p2 _).size hB3
          have p4 := below_then (below_alloc p3 _) (below_alloc p3 _).size hB4
          exact ⟨by first | rfl | (simp; done), by first | exact below_alloc p4 _ | exact pw_below_drewN (below_alloc p4 _) _⟩
        · have iq : ∀ w, (Instr.index 47 (.agg #[.string ⟨#[]⟩, .string ⟨#[46, 50, 53]⟩, .string ⟨#[46, 53, 48]⟩, .string ⟨#[46, 55, 53]⟩]) (.int .i64 3)).run Tryd.prog w = .ok (.string ⟨#[46, 55, 53]⟩) w := fun _ => by kernel_rfl
          have a1 : (⟨t.toArray⟩ : ByteArray) ++ ⟨#[46, 55, 53]⟩ = ⟨(t ++ quarL 3).toArray⟩ := ba_app t (quarL 3)
          have a2 : (⟨(t ++ quarL 3).toArray⟩ : ByteArray).size ≤ 12 := by rw [ba_size, List.length_append]; show t.length + 3 ≤ 12; omega
          have k1 : (⟨t.toArray⟩ : ByteArray).size + (⟨#[46, 55, 53]⟩ : ByteArray).size ≤ 9223372036854775807 := by rw [hT1]; show t.length + 3 ≤ _; omega
          have b1 : (⟨(t ++ quarL 3).toArray⟩ : ByteArray) ++ ⟨#[112, 120]⟩ = ⟨((if false = true then [45] else []) ++ t ++ quarL 3 ++ [112, 120]).toArray⟩ := ba_app (t ++ quarL 3) [112, 120]
          have b2 : (⟨#[45]⟩ : ByteArray) ++ ⟨(t ++ quarL 3).toArray⟩ ++ ⟨#[112, 120]⟩ = ⟨((if true = true then [45] else []) ++ t ++ quarL 3 ++ [112, 120]).toArray⟩ :=
            (congrArg (· ++ (⟨#[112, 120]⟩ : ByteArray)) (ba_app [45] (t ++ quarL 3))).trans ((ba_app ([45] ++ (t ++ quarL 3)) [112, 120]).trans (by rw [if_pos rfl]; simp))
          have b3 : (⟨(t ++ quarL 3).toArray⟩ : ByteArray) ++ ⟨#[37]⟩ = ⟨(t ++ quarL 3 ++ [37]).toArray⟩ := ba_app (t ++ quarL 3) [37]
          rw [← b1] at R1
          rw [← b2] at R2
          rw [← b3] at R3
          obtain ⟨XB, hXB⟩ : ∃ XB : ByteArray, ⟨(t ++ quarL 3).toArray⟩ = XB := ⟨_, rfl⟩
          rw [hXB] at R1 R2 R3 a1 a2
          have eV : (n : Int) * 64 + ((3 : Nat) : Int) * 16 = (n : Int) * 64 + 48 := by omega
          rw [eV] at R1 R2 R3
          rw [if_neg (by simp)] at R1
          rw [if_pos rfl] at R2
          have s1 : XB.size + (⟨#[112, 120]⟩ : ByteArray).size ≤ 9223372036854775807 := by show XB.size + 2 ≤ _; omega
          have s2 : (⟨#[45]⟩ : ByteArray).size + XB.size ≤ 9223372036854775807 := by show 1 + XB.size ≤ _; omega
          have s3 : ((⟨#[45]⟩ : ByteArray) ++ XB).size + (⟨#[112, 120]⟩ : ByteArray).size ≤ 9223372036854775807 := by rw [ByteArray.size_append]; show 1 + XB.size + 2 ≤ _; omega
          have s4 : XB.size + (⟨#[37]⟩ : ByteArray).size ≤ 9223372036854775807 := by show XB.size + 1 ≤ _; omega
          have C1 := fun w => readC 25 (XB ++ ⟨#[112, 120]⟩) w (by rw [ByteArray.size_append]; show XB.size + 2 < _; omega)
          have C2 := fun w => readC 25 ((⟨#[45]⟩ : ByteArray) ++ XB ++ ⟨#[112, 120]⟩) w (by rw [ByteArray.size_append, ByteArray.size_append]; show 1 + XB.size + 2 < _; omega)
          have C3 := fun w => readC 3 (XB ++ ⟨#[37]⟩) w (by rw [ByteArray.size_append]; show XB.size + 1 < _; omega)
          simp only [R1] at C1
          simp only [R2] at C2
          simp only [R3] at C3
          obtain ⟨V, hV⟩ : ∃ V : Int, (n : Int) * 64 + 48 = V := ⟨_, rfl⟩
          rw [hV] at C1 C2 C3
          have v1 : 0 ≤ V ∧ V ≤ 64000000000 := by omega
          have HV := Lib.hid hV
          clear b1 b2 b3 R1 R2 R3 hXB hdig hval eV hV
          go_upto_region 12 with (fail)
          rw [HV.out]
          clear HV iq a1 k1 hT1 hlt hn9 e1 e2 e3 es
          go_wp2_with (go_at_call 15; first | ((with_reducible refine (C1 _).mono ?_); rintro e w2 ⟨rfl, hB2⟩; obtain ⟨hc2, hf2⟩ := bcell hB2) | ((with_reducible refine (C2 _).mono ?_); rintro e w3 ⟨rfl, hB3⟩; obtain ⟨hc3, hf3⟩ := bcell hB3; have z3 : w2.heap.size < w3.heap.size := (by have q := hB3.size; rw [alloc_size] at q; exact q)) | ((with_reducible refine (C3 _).mono ?_); rintro e w4 ⟨rfl, hB4⟩; obtain ⟨hc4, hf4⟩ := bcell hB4; have z4 : w3.heap.size < w4.heap.size := (by have q := hB4.size; rw [alloc_size] at q; exact q); have z5 : w2.heap.size < w4.heap.size := (by omega)))
          go_ret
          have p2 := below_then HB1.out HB1.out.size hB2
          have p3 := below_then (below_alloc p2 _) (below_alloc p2 _).size hB3
          have p4 := below_then (below_alloc p3 _) (below_alloc p3 _).size hB4
          exact ⟨by first | rfl | (simp; done), by first | exact below_alloc p4 _ | exact pw_below_drewN (below_alloc p4 _) _⟩
end Go.Proofs.YtmfhhlgjbjbnhaaDoor.HU
