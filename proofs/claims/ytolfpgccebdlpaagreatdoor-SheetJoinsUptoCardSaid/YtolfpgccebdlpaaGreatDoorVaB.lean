/- value.digits, value.number and value.measure of any text: contracts proved by walking their text; no condition beside those that each theorem states. -/
import Derived.Test.YtolfpgccebdlpaaGreatDoorSrtA
import Derived.Test.YtolfpgccebdlpaaGreatDoorScC
import Derived.Laws.BytesArg
import Derived.Lib.ConvBytes
import Derived.Lib.VarintBits
import Derived.Maps.OwnOps
import Derived.Maps.OwnSet
import Derived.Maps.Views
import Derived.BigQuiet
import Derived.Test.YtolfpgccebdlpaaGreatDoorScA
set_option linter.unusedVariables false
set_option linter.unusedSimpArgs false
namespace Go.Proofs.Val
open Go.RowKit Go.Proofs Go.Proofs.YtolfpgccebdlpaaGreatDoorW.PrintWords
theorem ba_nil (l : List UInt8) : ((⟨l.toArray⟩ : ByteArray).toList == []) = decide (l = []) := by
  rw [Lib.toList_data]
  cases l <;> simp
theorem ba_size (l : List UInt8) : (⟨l.toArray⟩ : ByteArray).size = l.length := rfl
set_option maxHeartbeats 1000000 in
theorem digitsC (l : List UInt8) (m : Int) (w : World) (hs : l.length < 4294967281) :
    Calls Tryz.prog 183 #[.string ⟨l.toArray⟩, .int .i64 m] w fun e w' => e = .returned (.bool (digB l m)) ∧ Below w.heap.size w w' := by
  have hT := fun w => trim_dig ⟨l.toArray⟩ w hs
  have e1 := ba_nil l
  have e2 := ba_nil (Lib.trimS l [48, 49, 50, 51, 52, 53, 54, 55, 56, 57])
  have e3 := ba_size l
  have HD := Lib.hid (show digB l m = (!decide (l = []) && (decide ((l.length : Int) ≤ m) && decide (Lib.trimS l [48, 49, 50, 51, 52, 53, 54, 55, 56, 57] = []))) by
    unfold digB
    congr 1
    · simp
    · congr 1
      rw [Bool.eq_iff_iff, decide_eq_true_iff, trim_dig_nil])
  obtain ⟨u, hu⟩ : ∃ u, Lib.trimS l [48, 49, 50, 51, 52, 53, 54, 55, 56, 57] = u := ⟨_, rfl⟩
  rw [show (⟨l.toArray⟩ : ByteArray).data.toList = l from rfl, hu] at hT
  rw [hu] at e2 HD
  obtain ⟨s, hS⟩ : ∃ s : ByteArray, ⟨l.toArray⟩ = s := ⟨_, rfl⟩
  obtain ⟨t, ht⟩ : ∃ t : ByteArray, ⟨u.toArray⟩ = t := ⟨_, rfl⟩
  rw [hS] at e1 e3 hT ⊢
  rw [ht] at e2 hT
  clear hu hS ht
  go_enter Tryz.func183, Tryz.ntmps183
  by_cases h0 : l = []
  · rw [decide_eq_true h0] at e1
    have HD2 := Lib.hid (show digB l m = false by rw [HD.out, decide_eq_true h0]; rfl)
    clear h0
    go_wp2
    go_ret
    exact ⟨by rw [HD2.out]; rfl, Below.refl _ _⟩
  · rw [decide_eq_false h0] at e1
    by_cases h1 : (l.length : Int) ≤ m
    · have d1 : decide ((s.size : Int) ≤ m) = true := by rw [e3]; exact decide_eq_true h1
      by_cases h2 : u = []
      · rw [decide_eq_true h2] at e2
        have HD2 := Lib.hid (show digB l m = true by rw [HD.out, decide_eq_false h0, decide_eq_true h1, decide_eq_true h2]; rfl)
        clear h0 h1 h2 e3
        go_wp2_with (first | (go_at_call 132; refine (hT _).mono ?_; rintro e w' ⟨rfl, hB⟩))
        go_ret
        exact ⟨by rw [HD2.out]; rfl, hB⟩
      · rw [decide_eq_false h2] at e2
        have HD2 := Lib.hid (show digB l m = false by rw [HD.out, decide_eq_false h0, decide_eq_true h1, decide_eq_false h2]; rfl)
        clear h0 h1 h2 e3
        go_wp2_with (first | (go_at_call 132; refine (hT _).mono ?_; rintro e w' ⟨rfl, hB⟩))
        go_ret
        exact ⟨by rw [HD2.out]; rfl, hB⟩
    · have d1 : decide ((s.size : Int) ≤ m) = false := by rw [e3]; exact decide_eq_false h1
      have HD2 := Lib.hid (show digB l m = false by rw [HD.out, decide_eq_false h0, decide_eq_false h1]; rfl)
      clear h0 h1 e3
      go_wp2
      go_ret
      exact ⟨by rw [HD2.out]; rfl, Below.refl _ _⟩
theorem cut_none {l s : List UInt8} (h : (Lib.cut l s).2.2 = false) : (Lib.cut l s).2.1 = [] := by
  unfold Lib.cut at h ⊢
  split at h
  · cases h
  · rename_i hn; rw [if_neg hn]
theorem cut_len (l s : List UInt8) : (Lib.cut l s).1.length ≤ l.length ∧ (Lib.cut l s).2.1.length ≤ l.length := by
  unfold Lib.cut
  split
  · simp only [List.length_take, List.length_drop]; omega
  · simp
theorem ba_app (a b : List UInt8) : ((⟨a.toArray⟩ : ByteArray) ++ ⟨b.toArray⟩) = ⟨(a ++ b).toArray⟩ := by
  apply ByteArray.ext
  rw [ByteArray.data_append]
  simp
theorem ba_take (t : List UInt8) (m : Nat) : (⟨t.toArray⟩ : ByteArray).extract 0 m = ⟨(t.take m).toArray⟩ := by
  rw [Lib.extract_mk, List.drop_zero, Nat.sub_zero]
theorem trimPrefix_len (l p : List UInt8) : (Lib.trimPrefix l p).length ≤ l.length := by
  unfold Lib.trimPrefix
  split
  · rw [List.length_drop]; omega
  · exact Nat.le_refl _
theorem trimSuffix_len (l p : List UInt8) : (Lib.trimSuffix l p).length ≤ l.length := by
  unfold Lib.trimSuffix
  split
  · rw [List.length_take]; omega
  · exact Nat.le_refl _
theorem parse_below {W W' : World} (h : W' = W ∨ ∃ t, W' = Lib.bytesWorld W 5 t) : Below W.heap.size W W' := by
  rcases h with rfl | ⟨t, rfl⟩
  · exact Below.refl _ _
  · exact Lib.bytesWorld_below _ _ _
theorem decV_lt9 {l : List UInt8} (h : digB l 9 = true) : decV 0 l < 1000000000 := by
  obtain ⟨h1, h2, h3⟩ := digB_iff.1 h
  have := decV_lt l 0 0 h3 (by simp)
  have hp : 10 ^ (0 + l.length) ≤ 10 ^ 9 := Nat.pow_le_pow_right (by omega) (by omega)
  generalize h9 : 10 ^ 9 = T at hp
  have hT : T = 1000000000 := h9.symm
  omega
set_option maxHeartbeats 2000000 in
theorem numberC (l : List UInt8) (w : World) (hs : l.length < 4294967281) :
    Calls Tryz.prog 148 #[.string ⟨l.toArray⟩] w fun e w' => e = .returned (.tuple #[.int .i64 (numN l), .bool (numOk l)]) ∧ Below w.heap.size w w' := by
  have hP := fun w => Tryz.strings_CutPrefix ⟨l.toArray⟩ ⟨#[45]⟩ w
  have HA := Lib.hid (show numOk l = (digB (Lib.cut (Lib.trimPrefix l [45]) [46]).1 9 && (!(Lib.cut (Lib.trimPrefix l [45]) [46]).2.2 || digB (Lib.cut (Lib.trimPrefix l [45]) [46]).2.1 6)) from rfl)
  have HN := Lib.hid (show numN l = if numOk l = true then (if Lib.hasPrefix l [45] = true then -((decV 0 (Lib.cut (Lib.trimPrefix l [45]) [46]).1 : Int) * 64 + (sixV (Lib.cut (Lib.trimPrefix l [45]) [46]).2.1 : Int) * 64 / 1000000) else ((decV 0 (Lib.cut (Lib.trimPrefix l [45]) [46]).1 : Int) * 64 + (sixV (Lib.cut (Lib.trimPrefix l [45]) [46]).2.1 : Int) * 64 / 1000000)) else 0 from rfl)
  rw [show (⟨l.toArray⟩ : ByteArray).data.toList = l from rfl, show (⟨#[45]⟩ : ByteArray).data.toList = [45] from rfl] at hP
  have hl := trimPrefix_len l [45]
  obtain ⟨rest, hrest⟩ : ∃ r, Lib.trimPrefix l [45] = r := ⟨_, rfl⟩
  obtain ⟨bl, hbl⟩ : ∃ r, Lib.hasPrefix l [45] = r := ⟨_, rfl⟩
  rw [hrest, hbl] at hP
  rw [hrest] at HA hl
  rw [hrest, hbl] at HN
  have hC := fun w => ShX.xCut_one Tryz.lays145 ⟨rest.toArray⟩ 46 w (by show rest.length < _; omega)
  rw [show (⟨rest.toArray⟩ : ByteArray).data.toList = rest from rfl] at hC
  have hcn := cut_none (l := rest) (s := [46])
  have hcl := cut_len rest [46]
  obtain ⟨⟨c1, c2, dot⟩, hc⟩ : ∃ r, Lib.cut rest [46] = r := ⟨_, rfl⟩
  simp only [hc] at hC hcn hcl
  rw [hc] at HA HN
  simp only at HA HN
  have hD1 := fun w => digitsC c1 9 w (by omega)
  have hD2 := fun w => digitsC c2 6 w (by omega)
  have p1 := fun (h : digB c1 9 = true) w => by
    obtain ⟨q1, q2, q3⟩ := digB_iff.1 h
    exact Tryz.strconv_ParseInt_10_at64_ok ⟨c1.toArray⟩ (by show c1.length ≤ _; omega) (decV 0 c1 : Int) (by show Lib.parseIntB 64 c1 = _; exact parse_dig q3 q1 (by omega)) w
  have e6 : ((⟨c2.toArray⟩ : ByteArray) ++ ⟨#[48, 48, 48, 48, 48, 48]⟩).extract 0 6 = ⟨((c2 ++ zeros6).take 6).toArray⟩ := by
    rw [show (⟨#[48, 48, 48, 48, 48, 48]⟩ : ByteArray) = ⟨zeros6.toArray⟩ from rfl, ba_app, ba_take]
  have p2 := fun (h : c2.all isDig = true) w => by
    obtain ⟨q1, q2⟩ := six_dig h
    refine Tryz.strconv_ParseInt_10_at64_ok (((⟨c2.toArray⟩ : ByteArray) ++ ⟨#[48, 48, 48, 48, 48, 48]⟩).extract 0 6) ?_ (sixV c2 : Int) ?_ w
    · rw [e6]; show ((c2 ++ zeros6).take 6).length ≤ _; omega
    · rw [e6]; show Lib.parseIntB 64 ((c2 ++ zeros6).take 6) = _; exact parse_dig q1 (fun e => by rw [e] at q2; cases q2) (by omega)
  have hz : ((⟨c2.toArray⟩ : ByteArray) ++ ⟨#[48, 48, 48, 48, 48, 48]⟩).size = c2.length + 6 := by
    rw [show (⟨#[48, 48, 48, 48, 48, 48]⟩ : ByteArray) = ⟨zeros6.toArray⟩ from rfl, ba_app]
    show (c2 ++ zeros6).length = _
    simp [zeros6]
  obtain ⟨W1, h1⟩ : ∃ b, digB c1 9 = b := ⟨_, rfl⟩
  obtain ⟨W2, h2⟩ : ∃ b, digB c2 6 = b := ⟨_, rfl⟩
  simp only [h1] at hD1
  simp only [h2] at hD2
  rw [h1, h2] at HA
  cases W1 with
  | false =>
    have HK := Lib.hid (show numOk l = false ∧ numN l = 0 from ⟨by rw [HA.out]; rfl, by rw [HN.out, show numOk l = false by rw [HA.out]; rfl]; rfl⟩)
    clear p1 p2 hcn hcl HA HN hz e6 h1 h2 hc hl hrest hbl hs hD2
    go_enter Tryz.func148, Tryz.ntmps148
    go_wp2_with (first | (go_at_call 182; refine (hP _).mono ?_; rintro e w' ⟨rfl, rfl⟩) | (go_at_call 102; refine (hC _).mono ?_; rintro e w' ⟨rfl, nd, rfl⟩) | (go_at_call 183; refine (hD1 _).mono ?_; rintro e w1 ⟨rfl, hB1⟩))
    go_ret2
    have q0 := pw_below_drewN (Below.refl w'.heap.size w') nd
    exact ⟨(show _ = Ending.returned (Value.tuple #[.int .i64 0, .bool false]) from rfl).trans (by rw [HK.out.1, HK.out.2]), below_then q0 q0.size hB1⟩
  | true =>
    cases dot with
    | false =>
      obtain rfl := hcn rfl
      have hall : ([] : List UInt8).all isDig = true := rfl
      clear hD2
      obtain ⟨n, hn⟩ : ∃ n : Int, (decV 0 c1 : Int) = n := ⟨_, rfl⟩
      obtain ⟨m, hm⟩ : ∃ m : Int, (sixV ([] : List UInt8) : Int) = m := ⟨_, rfl⟩
      have bn : 0 ≤ n ∧ n < 1000000000 := by have := decV_lt9 h1; omega
      have bm : 0 ≤ m ∧ m < 1000000 := by have := six_lt hall; omega
      have hN := p1 h1
      have hM := p2 hall
      rw [hn] at hN
      rw [hm] at hM
      have HK := Lib.hid (show numOk l = true ∧ numN l = if bl = true then -(n * 64 + m * 64 / 1000000) else n * 64 + m * 64 / 1000000 from ⟨by rw [HA.out]; rfl, by rw [HN.out, show numOk l = true by rw [HA.out]; rfl, hn, hm]; rfl⟩)
      clear p1 p2 hcn hcl HA HN e6 h1 h2 hc hl hrest hbl hs hall hn hm
      cases bl with
      | false =>
        go_enter Tryz.func148, Tryz.ntmps148
        go_wp2_with (first | (go_at_call 182; refine (hP _).mono ?_; rintro e w' ⟨rfl, rfl⟩) | (go_at_call 102; refine (hC _).mono ?_; rintro e w' ⟨rfl, nd, rfl⟩) | (go_at_call 183; refine (hD1 _).mono ?_; rintro e w1 ⟨rfl, hB1⟩) | (go_at_call 184; first | (with_reducible refine (hN _).mono ?_; rintro e w3 ⟨rfl, hB3⟩) | (refine (hM _).mono ?_; rintro e w4 ⟨rfl, hB4⟩)))
        go_ret2
        have q0 := pw_below_drewN (Below.refl w'.heap.size w') nd
        have q1 := below_then q0 q0.size hB1
        have q2 := q1
        have q3 := below_then q2 q2.size (parse_below hB3)
        exact ⟨(show _ = Ending.returned (Value.tuple #[.int .i64 (n * 64 + m * 64 / 1000000), .bool true]) from rfl).trans (by rw [HK.out.1, HK.out.2]; rfl), below_then q3 q3.size (parse_below hB4)⟩
      | true =>
        go_enter Tryz.func148, Tryz.ntmps148
        go_wp2_with (first | (go_at_call 182; refine (hP _).mono ?_; rintro e w' ⟨rfl, rfl⟩) | (go_at_call 102; refine (hC _).mono ?_; rintro e w' ⟨rfl, nd, rfl⟩) | (go_at_call 183; refine (hD1 _).mono ?_; rintro e w1 ⟨rfl, hB1⟩) | (go_at_call 184; first | (with_reducible refine (hN _).mono ?_; rintro e w3 ⟨rfl, hB3⟩) | (refine (hM _).mono ?_; rintro e w4 ⟨rfl, hB4⟩)))
        go_ret2
        have q0 := pw_below_drewN (Below.refl w'.heap.size w') nd
        have q1 := below_then q0 q0.size hB1
        have q2 := q1
        have q3 := below_then q2 q2.size (parse_below hB3)
        exact ⟨(show _ = Ending.returned (Value.tuple #[.int .i64 (-(n * 64 + m * 64 / 1000000)), .bool true]) from rfl).trans (by rw [HK.out.1, HK.out.2]; rfl), below_then q3 q3.size (parse_below hB4)⟩
    | true =>
      cases W2 with
      | false =>
        have HK := Lib.hid (show numOk l = false ∧ numN l = 0 from ⟨by rw [HA.out]; rfl, by rw [HN.out, show numOk l = false by rw [HA.out]; rfl]; rfl⟩)
        clear p1 p2 hcn hcl HA HN hz e6 h1 h2 hc hl hrest hbl hs
        go_enter Tryz.func148, Tryz.ntmps148
        go_wp2_with (first | (go_at_call 182; refine (hP _).mono ?_; rintro e w' ⟨rfl, rfl⟩) | (go_at_call 102; refine (hC _).mono ?_; rintro e w' ⟨rfl, nd, rfl⟩) | (go_at_call 183; first | (with_reducible refine (hD1 _).mono ?_; rintro e w1 ⟨rfl, hB1⟩) | (with_reducible refine (hD2 _).mono ?_; rintro e w2 ⟨rfl, hB2⟩)))
        go_ret2
        have q0 := pw_below_drewN (Below.refl w'.heap.size w') nd
        have q1 := below_then q0 q0.size hB1
        exact ⟨(show _ = Ending.returned (Value.tuple #[.int .i64 0, .bool false]) from rfl).trans (by rw [HK.out.1, HK.out.2]), below_then q1 q1.size hB2⟩
      | true =>
        have hall : c2.all isDig = true := (digB_iff.1 h2).2.2
        have hz2 : (⟨c2.toArray⟩ : ByteArray).size + (⟨#[48, 48, 48, 48, 48, 48]⟩ : ByteArray).size ≤ 9223372036854775807 := by show c2.length + 6 ≤ _; omega
        obtain ⟨n, hn⟩ : ∃ n : Int, (decV 0 c1 : Int) = n := ⟨_, rfl⟩
        obtain ⟨m, hm⟩ : ∃ m : Int, (sixV c2 : Int) = m := ⟨_, rfl⟩
        have bn : 0 ≤ n ∧ n < 1000000000 := by have := decV_lt9 h1; omega
        have bm : 0 ≤ m ∧ m < 1000000 := by have := six_lt hall; omega
        have hN := p1 h1
        have hM := p2 hall
        rw [hn] at hN
        rw [hm] at hM
        have HK := Lib.hid (show numOk l = true ∧ numN l = if bl = true then -(n * 64 + m * 64 / 1000000) else n * 64 + m * 64 / 1000000 from ⟨by rw [HA.out]; rfl, by rw [HN.out, show numOk l = true by rw [HA.out]; rfl, hn, hm]; rfl⟩)
        clear p1 p2 hcn hcl HA HN e6 h1 h2 hc hl hrest hbl hs hall hn hm
        cases bl with
        | false =>
          go_enter Tryz.func148, Tryz.ntmps148
          go_wp2_with (first | (go_at_call 182; refine (hP _).mono ?_; rintro e w' ⟨rfl, rfl⟩) | (go_at_call 102; refine (hC _).mono ?_; rintro e w' ⟨rfl, nd, rfl⟩) | (go_at_call 183; first | (with_reducible refine (hD1 _).mono ?_; rintro e w1 ⟨rfl, hB1⟩) | (with_reducible refine (hD2 _).mono ?_; rintro e w2 ⟨rfl, hB2⟩)) | (go_at_call 184; first | (with_reducible refine (hN _).mono ?_; rintro e w3 ⟨rfl, hB3⟩) | (refine (hM _).mono ?_; rintro e w4 ⟨rfl, hB4⟩)))
          go_ret2
          have q0 := pw_below_drewN (Below.refl w'.heap.size w') nd
          have q1 := below_then q0 q0.size hB1
          have q2 := below_then q1 q1.size hB2
          have q3 := below_then q2 q2.size (parse_below hB3)
          exact ⟨(show _ = Ending.returned (Value.tuple #[.int .i64 (n * 64 + m * 64 / 1000000), .bool true]) from rfl).trans (by rw [HK.out.1, HK.out.2]; rfl), below_then q3 q3.size (parse_below hB4)⟩
        | true =>
          go_enter Tryz.func148, Tryz.ntmps148
          go_wp2_with (first | (go_at_call 182; refine (hP _).mono ?_; rintro e w' ⟨rfl, rfl⟩) | (go_at_call 102; refine (hC _).mono ?_; rintro e w' ⟨rfl, nd, rfl⟩) | (go_at_call 183; first | (with_reducible refine (hD1 _).mono ?_; rintro e w1 ⟨rfl, hB1⟩) | (with_reducible refine (hD2 _).mono ?_; rintro e w2 ⟨rfl, hB2⟩)) | (go_at_call 184; first | (with_reducible refine (hN _).mono ?_; rintro e w3 ⟨rfl, hB3⟩) | (refine (hM _).mono ?_; rintro e w4 ⟨rfl, hB4⟩)))
          go_ret2
          have q0 := pw_below_drewN (Below.refl w'.heap.size w') nd
          have q1 := below_then q0 q0.size hB1
          have q2 := below_then q1 q1.size hB2
          have q3 := below_then q2 q2.size (parse_below hB3)
          exact ⟨(show _ = Ending.returned (Value.tuple #[.int .i64 (-(n * 64 + m * 64 / 1000000)), .bool true]) from rfl).trans (by rw [HK.out.1, HK.out.2]; rfl), below_then q3 q3.size (parse_below hB4)⟩
def measOk (l s : List UInt8) : Bool := Lib.hasSuffix l s && numOk (Lib.trimSuffix l s)
def measV (l s : List UInt8) (k : Int) : Int × Int := if measOk l s = true then (k, numN (Lib.trimSuffix l s)) else (0, 0)
set_option maxHeartbeats 2000000 in
theorem measureC (l s : List UInt8) (k : Int) (w : World) (hs : l.length < 4294967281) :
    Calls Tryz.prog 177 #[.string ⟨l.toArray⟩, .string ⟨s.toArray⟩, .int .i64 k] w fun e w' => e = .returned (.tuple #[.agg #[.int .i64 (measV l s k).1, .int .i64 (measV l s k).2], .bool (measOk l s)]) ∧ Below w.heap.size w w' := by
  have hP := fun w => Tryz.strings_CutSuffix ⟨l.toArray⟩ ⟨s.toArray⟩ w (by show l.length ≤ _; omega)
  rw [show (⟨l.toArray⟩ : ByteArray).data.toList = l from rfl, show (⟨s.toArray⟩ : ByteArray).data.toList = s from rfl] at hP
  have hN := fun w => numberC (Lib.trimSuffix l s) w (by have := trimSuffix_len l s; omega)
  have HA := Lib.hid (show measOk l s = (Lib.hasSuffix l s && numOk (Lib.trimSuffix l s)) from rfl)
  have HV := Lib.hid (show measV l s k = if measOk l s = true then (k, numN (Lib.trimSuffix l s)) else (0, 0) from rfl)
  obtain ⟨is, h1⟩ : ∃ b, Lib.hasSuffix l s = b := ⟨_, rfl⟩
  obtain ⟨ok, h2⟩ : ∃ b, numOk (Lib.trimSuffix l s) = b := ⟨_, rfl⟩
  obtain ⟨n, h3⟩ : ∃ b, numN (Lib.trimSuffix l s) = b := ⟨_, rfl⟩
  obtain ⟨fr, h4⟩ : ∃ b, Lib.trimSuffix l s = b := ⟨_, rfl⟩
  simp only [h1] at hP
  simp only [h2, h3] at hN
  rw [h1, h2] at HA
  rw [h3] at HV
  simp only [h4] at hP hN
  clear h1 h2 h3 h4 hs
  cases is with
  | false =>
    have HK := Lib.hid (show measOk l s = false ∧ measV l s k = (0, 0) from ⟨by rw [HA.out]; rfl, by rw [HV.out, show measOk l s = false by rw [HA.out]; rfl]; rfl⟩)
    clear HA HV
    go_enter Tryz.func177, Tryz.ntmps177
    go_wp2_with (first | (go_at_call 106; refine (hP _).mono ?_; rintro e w' ⟨rfl, rfl⟩) | (go_at_call 148; refine (hN _).mono ?_; rintro e w1 ⟨rfl, hB1⟩; obtain ⟨hc, hf⟩ := bcell hB1; have hz : w.heap.size < w1.heap.size := by (have hs := hB1.size; rw [alloc_size] at hs; omega)))
    have p1 : Below w.heap.size w w1 := ((Below.refl _ _).alloc (Nat.le_refl _) _).trans (hB1.mono (by rw [alloc_size]; omega))
    refine bodyPost_ret (v := .tuple #[.agg #[.int .i64 0, .int .i64 0], .bool false]) (by simp [results, Tryz.results177, go_sem, hc, hz]) rfl ⟨by rw [HK.out.1, HK.out.2], ?_⟩
    exact (p1.setCell (by exact Nat.le_refl _) _).setCell (by exact Nat.le_refl _) _
  | true =>
    cases ok with
    | false =>
      have HK := Lib.hid (show measOk l s = false ∧ measV l s k = (0, 0) from ⟨by rw [HA.out]; rfl, by rw [HV.out, show measOk l s = false by rw [HA.out]; rfl]; rfl⟩)
      clear HA HV
      go_enter Tryz.func177, Tryz.ntmps177
      go_wp2_with (first | (go_at_call 106; refine (hP _).mono ?_; rintro e w' ⟨rfl, rfl⟩) | (go_at_call 148; refine (hN _).mono ?_; rintro e w1 ⟨rfl, hB1⟩; obtain ⟨hc, hf⟩ := bcell hB1; have hz : w.heap.size < w1.heap.size := by (have hs := hB1.size; rw [alloc_size] at hs; omega)))
      have p1 : Below w.heap.size w w1 := ((Below.refl _ _).alloc (Nat.le_refl _) _).trans (hB1.mono (by rw [alloc_size]; omega))
      refine bodyPost_ret (v := .tuple #[.agg #[.int .i64 0, .int .i64 0], .bool false]) (by simp [results, Tryz.results177, go_sem, hc, hz]) rfl ⟨by rw [HK.out.1, HK.out.2], ?_⟩
      exact (p1.setCell (by exact Nat.le_refl _) _).setCell (by exact Nat.le_refl _) _
    | true =>
      have HK := Lib.hid (show measOk l s = true ∧ measV l s k = (k, n) from ⟨by rw [HA.out]; rfl, by rw [HV.out, show measOk l s = true by rw [HA.out]; rfl]; rfl⟩)
      clear HA HV
      go_enter Tryz.func177, Tryz.ntmps177
      go_wp2_with (first | (go_at_call 106; refine (hP _).mono ?_; rintro e w' ⟨rfl, rfl⟩) | (go_at_call 148; refine (hN _).mono ?_; rintro e w1 ⟨rfl, hB1⟩; obtain ⟨hc, hf⟩ := bcell hB1; have hz : w.heap.size < w1.heap.size := by (have hs := hB1.size; rw [alloc_size] at hs; omega)))
      have p1 : Below w.heap.size w w1 := ((Below.refl _ _).alloc (Nat.le_refl _) _).trans (hB1.mono (by rw [alloc_size]; omega))
      refine bodyPost_ret (v := .tuple #[.agg #[.int .i64 k, .int .i64 n], .bool true]) (by simp [results, Tryz.results177, go_sem, hc, hz]) rfl ⟨by rw [HK.out.1, HK.out.2], ?_⟩
      exact (p1.setCell (by exact Nat.le_refl _) _).setCell (by exact Nat.le_refl _) _
end Go.Proofs.Val
set_option linter.unusedVariables false
set_option linter.unusedSimpArgs false
namespace Go.Proofs.Val
open Go.RowKit Go.Proofs Go.Proofs.YtolfpgccebdlpaaGreatDoorW.PrintWords
/-- the tables of the library that numbers' texts are made by -/
structure Tbs (w : World) : Prop where
  p10 : Lib.TabIs Tryz.prog w "internal/strconv.uint64pow10" .u64 Lib.pow10Tab
  tz : w.cell? ⟨7, 15, none⟩ = some (.int .u8 4)
theorem gn10 : Tryz.prog.globalNamed "internal/strconv.uint64pow10" = some 3 := by kernel_rfl
theorem Tbs.below {w w' : World} (h : Tbs w) (hb : Below w.heap.size w w') : Tbs w' := by
  refine ⟨?_, (hb.cell (p := ⟨7, 15, none⟩) (World.block_lt_of_cell? _ _ h.tz)).trans h.tz⟩
  have h1 := h.p10
  unfold Lib.TabIs World.var? at h1 ⊢
  rw [gn10] at h1 ⊢
  simp only [Option.bind_some] at h1 ⊢
  have hlt : 3 < w.heap.size := by
    rcases Nat.lt_or_ge 3 w.heap.size with h' | h'
    · exact h'
    · rw [Array.getElem?_eq_none h'] at h1; cases h1
  rw [hb.block _ hlt]
  exact h1
theorem Tbs.draws {w : World} (h : Tbs w) (n : Nat) : Tbs (w.drewN n) := ⟨h.p10, h.tz⟩
theorem grow_below (w : World) (q : Nat) (os : Array Obj) : Below w.heap.size w (Go.Sort.grow (w.drewN q) os) :=
  ⟨rfl, rfl, rfl, by first | (simp [Go.Sort.grow]; done) | (simp [Go.Sort.grow]; omega), fun i hi => by
    show ((w.drewN q).heap ++ os)[i]? = _
    rw [Array.getElem?_append_left (by show i < w.heap.size; omega)]
    rfl⟩
theorem fmt10 (u : Nat) (hu : u ≤ 1000000000) (w : World) (hT : Tbs w) :
    Calls Tryz.prog 121 #[.int .i64 (u : Int), .int .i64 10] w fun e w' => e = .returned (.string ⟨(Lib.decDigits u).toArray⟩) ∧ Below w.heap.size w w' := by
  refine (Tryz.strconv_FormatInt_10 (u : Int) (by omega) (by omega) w hT.p10).mono ?_
  rintro e w' ⟨rfl, k, os, rfl⟩
  exact ⟨by rw [Lib.itoa_nonneg], grow_below _ _ _⟩
theorem trB (l : List UInt8) : Lib.trimRightB l 48 = Lib.trimRightS l [48] := by
  unfold Lib.trimRightB Lib.trimRightS
  congr 2
  funext c
  by_cases h : c = 48 <;> simp [h]
set_option maxHeartbeats 2000000 in
theorem decimalC (n : Int) (h1 : -63999999999 ≤ n) (h2 : n ≤ 63999999999) (w : World) (hT : Tbs w) :
    Calls Tryz.prog 122 #[.int .i64 n] w fun e w' => e = .returned (.string ⟨(decL n).toArray⟩) ∧ Below w.heap.size w w' := by
  have HL := Lib.hid (show decL n = Lib.trimSuffix ((if n < 0 then [45] else []) ++ Lib.decDigits (n.natAbs / 64) ++ ([46] ++ fracL (n.natAbs % 64))) [46] from rfl)
  obtain ⟨m, hm⟩ : ∃ m, n.natAbs = m := ⟨_, rfl⟩
  rw [hm] at HL
  obtain ⟨q, hq⟩ : ∃ q, m / 64 = q := ⟨_, rfl⟩
  obtain ⟨r, hr⟩ : ∃ r, m % 64 = r := ⟨_, rfl⟩
  rw [hq, hr] at HL
  have hr64 : r < 64 := by omega
  obtain ⟨six, s1, s2, s3, s4⟩ := dd_seven (r := r * 15625) (by omega)
  have hA := fun w hT => fmt10 q (by omega) w hT
  have hB := fun w hT => fmt10 (1000000 + r * 15625) (by omega) w hT
  have lq := dd_len (u := q) (k := 9) (by omega) (by simp; omega)
  rw [s1] at hB
  have ex : (⟨(49 :: six).toArray⟩ : ByteArray).extract 1 (⟨(49 :: six).toArray⟩ : ByteArray).size = ⟨six.toArray⟩ := by
    rw [Lib.extract_mk]
    congr 2
    rw [ba_size]
    simp
  have fr : (⟨(Lib.trimRightB (⟨six.toArray⟩ : ByteArray).data.toList 48).toArray⟩ : ByteArray) = ⟨(fracL r).toArray⟩ := by
    rw [show (⟨six.toArray⟩ : ByteArray).data.toList = six from rfl, trB]
    unfold fracL
    rw [s1]; rfl
  have lf := (frac_ok hr64).2.1
  have sz7 : (⟨(49 :: six).toArray⟩ : ByteArray).size = 7 := by rw [ba_size]; simp [s2]
  have hC := fun w => Tryz.strings_TrimRight_one ⟨six.toArray⟩ 48 (by decide) w (by rw [ba_size]; omega)
  rw [fr] at hC
  rw [← ex] at hC
  obtain ⟨sb, hsb⟩ : ∃ sb : ByteArray, ⟨(49 :: six).toArray⟩ = sb := ⟨_, rfl⟩
  rw [hsb] at hB hC sz7
  clear fr ex hsb s1 s2 s3 s4
  have z1 : 1 ≤ sb.size ∧ sb.size ≤ 7 := by omega
  clear sz7
  have e1 : ((1000000 + r * 15625 : Nat) : Int) = 1000000 + (m : Int) % 64 * 15625 := by omega
  have e2 : ((q : Nat) : Int) = (m : Int) / 64 := by omega
  rw [e1] at hB
  rw [e2] at hA
  have hm64 : (m : Int) ≤ 63999999999 := by omega
  have m0 : 0 ≤ (m : Int) := by omega
  obtain ⟨M, hM⟩ : ∃ M : Int, (m : Int) = M := ⟨_, rfl⟩
  rw [hM] at hA hB hm64 m0
  obtain ⟨fb, hfb⟩ : ∃ fb : List UInt8, fracL r = fb := ⟨_, rfl⟩
  obtain ⟨wb, hwb⟩ : ∃ wb : List UInt8, Lib.decDigits q = wb := ⟨_, rfl⟩
  rw [hfb] at hC lf HL
  rw [hwb] at hA lq HL
  have zf := ba_size fb
  have zw := ba_size wb
  by_cases hn : n < 0
  · rw [if_pos hn] at HL
    have hS := fun w => Tryz.strings_TrimSuffix (((⟨#[45]⟩ : ByteArray) ++ ⟨wb.toArray⟩) ++ ⟨#[46]⟩ ++ ⟨fb.toArray⟩) ⟨#[46]⟩ w (by
      rw [show (⟨#[45]⟩ : ByteArray) = ⟨([45] : List UInt8).toArray⟩ from rfl, show (⟨#[46]⟩ : ByteArray) = ⟨([46] : List UInt8).toArray⟩ from rfl, ba_app, ba_app, ba_app, ba_size]; simp; omega)
    have hk1 : (⟨#[45]⟩ : ByteArray).size + (⟨wb.toArray⟩ : ByteArray).size ≤ 9223372036854775807 := by rw [ba_size]; show 1 + _ ≤ _; omega
    have hk2 : ((⟨#[45]⟩ : ByteArray) ++ ⟨wb.toArray⟩).size + (⟨#[46]⟩ : ByteArray).size ≤ 9223372036854775807 := by rw [show (⟨#[45]⟩ : ByteArray) = ⟨([45] : List UInt8).toArray⟩ from rfl, ba_app, ba_size]; show (_ + 1) ≤ _; simp; omega
    have hk3 : (((⟨#[45]⟩ : ByteArray) ++ ⟨wb.toArray⟩) ++ (⟨#[46]⟩ : ByteArray)).size + (⟨fb.toArray⟩ : ByteArray).size ≤ 9223372036854775807 := by rw [show (⟨#[45]⟩ : ByteArray) = ⟨([45] : List UInt8).toArray⟩ from rfl, show (⟨#[46]⟩ : ByteArray) = ⟨([46] : List UInt8).toArray⟩ from rfl, ba_app, ba_app, ba_size, ba_size]; simp; omega
    have fin : (⟨(Lib.trimSuffix (((⟨#[45]⟩ : ByteArray) ++ ⟨wb.toArray⟩) ++ ⟨#[46]⟩ ++ ⟨fb.toArray⟩ : ByteArray).data.toList (⟨#[46]⟩ : ByteArray).data.toList).toArray⟩ : ByteArray) = ⟨(decL n).toArray⟩ := by
      rw [show (⟨#[45]⟩ : ByteArray) = ⟨([45] : List UInt8).toArray⟩ from rfl, show (⟨#[46]⟩ : ByteArray) = ⟨([46] : List UInt8).toArray⟩ from rfl, ba_app, ba_app, ba_app, HL.out]
      simp
    rw [fin] at hS
    obtain ⟨D, hD⟩ : ∃ D : ByteArray, ⟨(decL n).toArray⟩ = D := ⟨_, rfl⟩
    rw [hD] at hS ⊢
    obtain ⟨Fb, hFb⟩ : ∃ D : ByteArray, ⟨fb.toArray⟩ = D := ⟨_, rfl⟩
    obtain ⟨Wb, hWb⟩ : ∃ D : ByteArray, ⟨wb.toArray⟩ = D := ⟨_, rfl⟩
    rw [hFb] at hC hS hk3
    rw [hWb] at hA hS hk1 hk2 hk3
    obtain rfl : n = -M := by omega
    clear fin hD hFb hWb HL zf zw hfb hwb hM e1 e2 hq hr hm hr64 lf lq
    go_enter Tryz.func122, Tryz.ntmps122
    go_wp2_with (first | (go_at_call 121; first | (with_reducible refine (hA _ hT).mono ?_; rintro e w1 ⟨rfl, hB1⟩) | (with_reducible refine (hB _ (hT.below hB1)).mono ?_; rintro e w2 ⟨rfl, hB2⟩)) | (go_at_call 151; with_reducible refine (hC _).mono ?_; rintro e w3 ⟨rfl, rfl⟩) | (go_at_call 150; with_reducible refine (hS _).mono ?_; rintro e w4 ⟨rfl, rfl⟩))
    go_ret
    exact ⟨rfl, below_then hB1 hB1.size hB2⟩
  · rw [if_neg hn] at HL
    have hS := fun w => Tryz.strings_TrimSuffix (((⟨#[]⟩ : ByteArray) ++ ⟨wb.toArray⟩) ++ ⟨#[46]⟩ ++ ⟨fb.toArray⟩) ⟨#[46]⟩ w (by
      rw [show (⟨#[]⟩ : ByteArray) = ⟨([] : List UInt8).toArray⟩ from rfl, show (⟨#[46]⟩ : ByteArray) = ⟨([46] : List UInt8).toArray⟩ from rfl, ba_app, ba_app, ba_app, ba_size]; simp; omega)
    have hk1 : (⟨#[]⟩ : ByteArray).size + (⟨wb.toArray⟩ : ByteArray).size ≤ 9223372036854775807 := by rw [ba_size]; show 0 + _ ≤ _; omega
    have hk2 : ((⟨#[]⟩ : ByteArray) ++ ⟨wb.toArray⟩).size + (⟨#[46]⟩ : ByteArray).size ≤ 9223372036854775807 := by rw [show (⟨#[]⟩ : ByteArray) = ⟨([] : List UInt8).toArray⟩ from rfl, ba_app, ba_size]; show (_ + 1) ≤ _; simp; omega
    have hk3 : (((⟨#[]⟩ : ByteArray) ++ ⟨wb.toArray⟩) ++ (⟨#[46]⟩ : ByteArray)).size + (⟨fb.toArray⟩ : ByteArray).size ≤ 9223372036854775807 := by rw [show (⟨#[]⟩ : ByteArray) = ⟨([] : List UInt8).toArray⟩ from rfl, show (⟨#[46]⟩ : ByteArray) = ⟨([46] : List UInt8).toArray⟩ from rfl, ba_app, ba_app, ba_size, ba_size]; simp; omega
    have fin : (⟨(Lib.trimSuffix (((⟨#[]⟩ : ByteArray) ++ ⟨wb.toArray⟩) ++ ⟨#[46]⟩ ++ ⟨fb.toArray⟩ : ByteArray).data.toList (⟨#[46]⟩ : ByteArray).data.toList).toArray⟩ : ByteArray) = ⟨(decL n).toArray⟩ := by
      rw [show (⟨#[]⟩ : ByteArray) = ⟨([] : List UInt8).toArray⟩ from rfl, show (⟨#[46]⟩ : ByteArray) = ⟨([46] : List UInt8).toArray⟩ from rfl, ba_app, ba_app, ba_app, HL.out]
      simp
    rw [fin] at hS
    obtain ⟨D, hD⟩ : ∃ D : ByteArray, ⟨(decL n).toArray⟩ = D := ⟨_, rfl⟩
    rw [hD] at hS ⊢
    obtain ⟨Fb, hFb⟩ : ∃ D : ByteArray, ⟨fb.toArray⟩ = D := ⟨_, rfl⟩
    obtain ⟨Wb, hWb⟩ : ∃ D : ByteArray, ⟨wb.toArray⟩ = D := ⟨_, rfl⟩
    rw [hFb] at hC hS hk3
    rw [hWb] at hA hS hk1 hk2 hk3
    obtain rfl : n = M := by omega
    clear fin hD hFb hWb HL zf zw hfb hwb hM e1 e2 hq hr hm hr64 lf lq
    go_enter Tryz.func122, Tryz.ntmps122
    go_wp2_with (first | (go_at_call 121; first | (with_reducible refine (hA _ hT).mono ?_; rintro e w1 ⟨rfl, hB1⟩) | (with_reducible refine (hB _ (hT.below hB1)).mono ?_; rintro e w2 ⟨rfl, hB2⟩)) | (go_at_call 151; with_reducible refine (hC _).mono ?_; rintro e w3 ⟨rfl, rfl⟩) | (go_at_call 150; with_reducible refine (hS _).mono ?_; rintro e w4 ⟨rfl, rfl⟩))
    go_ret
    exact ⟨rfl, below_then hB1 hB1.size hB2⟩
end Go.Proofs.Val
set_option linter.unusedVariables false
set_option linter.unusedSimpArgs false
namespace Go.Proofs.Val
open Go.RowKit Go.Proofs Go.Proofs.YtolfpgccebdlpaaGreatDoorW.PrintWords
def isHex (c : UInt8) : Bool := isDig c || (decide (97 ≤ c.toNat) && decide (c.toNat ≤ 102))
def hx (c : UInt8) : Nat := if c.toNat ≤ 57 then c.toNat - 48 else c.toNat - 87
def hexV (a : Nat) (l : List UInt8) : Nat := l.foldl (fun a c => a * 16 + hx c) a
theorem isHex_iff {c : UInt8} : isHex c = true ↔ (48 ≤ c.toNat ∧ c.toNat ≤ 57) ∨ (97 ≤ c.toNat ∧ c.toNat ≤ 102) := by simp [isHex, isDig]
theorem hx_lt {c : UInt8} (h : isHex c = true) : hx c < 16 := by
  rw [isHex_iff] at h
  unfold hx; split <;> omega
theorem hexV_snoc (a : Nat) (l : List UInt8) (c : UInt8) : hexV a (l ++ [c]) = hexV a l * 16 + hx c := by unfold hexV; rw [List.foldl_append]; rfl
theorem hexV_take_lt {l : List UInt8} (h : l.all isHex = true) : ∀ k, k ≤ l.length → hexV 0 (l.take k) < 16 ^ k
  | 0, _ => by simp [hexV]
  | k + 1, hk => by
    have ih := hexV_take_lt h k (by omega)
    rw [List.take_succ_eq_append_getElem (by omega), hexV_snoc, Nat.pow_succ]
    have := hx_lt (List.all_eq_true.1 h _ (List.getElem_mem (show k < l.length by omega)))
    omega
theorem hexV_take_succ {l : List UInt8} {k : Nat} (hk : k < l.length) : hexV 0 (l.take (k + 1)) = hexV 0 (l.take k) * 16 + hx (l.getD k 0) := by
  rw [List.take_succ_eq_append_getElem hk, hexV_snoc]
  simp [List.getD, List.getElem?_eq_getElem hk]
theorem hex_le6 {k : Nat} (h : k ≤ 6) : 16 ^ k ≤ 16777216 := by
  obtain rfl | rfl | rfl | rfl | rfl | rfl | rfl : k = 0 ∨ k = 1 ∨ k = 2 ∨ k = 3 ∨ k = 4 ∨ k = 5 ∨ k = 6 := by omega
  all_goals decide
set_option maxHeartbeats 4000000 in
set_option maxRecDepth 1000000 in
theorem parseU16 (l : List UInt8) (h1 : l ≠ []) (h6 : l.length ≤ 6) (hx' : l.all isHex = true) (w : World) :
    Calls Tryz.prog 207 #[.string ⟨l.toArray⟩, .int .i64 16, .int .i64 64] w fun e w' => e = .returned (.tuple #[.int .u64 (hexV 0 l : Int), .nilIface]) ∧ Below w.heap.size w w' := by
  have hconv := Lib.run_convert_string_bytes (P := Tryz.prog) w 9 97 5 ⟨l.toArray⟩ Tryz.underlying9 Tryz.underlying97 Tryz.underlying5
  have hcells := Lib.bytesWorld_cell w 5 ⟨l.toArray⟩
  have hbel := Lib.bytesWorld_below w 5 ⟨l.toArray⟩
  have e1 := ba_nil l
  rw [decide_eq_false h1] at e1
  have hsz := ba_size l
  obtain ⟨W1, hW1⟩ : ∃ W1, Lib.bytesWorld w 5 ⟨l.toArray⟩ = W1 := ⟨_, rfl⟩
  obtain ⟨cap, hcap⟩ : ∃ cap, grownCap w (⟨l.toArray⟩ : ByteArray).size 0 5 = cap := ⟨_, rfl⟩
  rw [hW1] at hconv hcells hbel
  rw [hcap] at hconv
  rw [hsz] at hconv hcells
  rw [show (⟨l.toArray⟩ : ByteArray).data.toList = l from rfl] at hcells
  have HC := Lib.hid hcells
  have HB := Lib.hid hbel
  clear hW1 hcap hcells hbel hsz
  obtain ⟨s, hS⟩ : ∃ s : ByteArray, ⟨l.toArray⟩ = s := ⟨_, rfl⟩
  rw [hS] at e1 hconv ⊢
  clear hS
  go_enter Tryz.func207, Tryz.ntmps207
  go_wp2
  have hm : IntKind.u64.wrap (IntKind.u64.wrap 18446744073709551616 - 1) = 18446744073709551615 := by decide
  rw [hm]
  clear hm hconv
  go_loopw [12, 13, 101] (fun u m i wr => ∃ k : Nat, k ≤ l.length ∧ i = .int .i64 k ∧ m = .int .u64 (hexV 0 (l.take k) : Int) ∧ u = .bool false ∧ wr = W1) (fun _ _ i _ => l.length - (RowKit.intOf i).toNat)
  case atStart => exact ⟨0, by omega, rfl, rfl, rfl, rfl⟩
  case round =>
    obtain ⟨k, hk, rfl, rfl, rfl, rfl⟩ := hrel
    have hnl := hexV_take_lt hx' k hk
    have hp := hex_le6 (Nat.le_trans hk h6)
    by_cases hlt : k < l.length
    · have hc := HC.out k hlt
      have hhex : isHex (l.getD k 0) = true := by
        have e : l.getD k 0 = l[k] := by simp [List.getD, List.getElem?_eq_getElem hlt]
        rw [e]
        exact List.all_eq_true.1 hx' _ (List.getElem_mem hlt)
      have hsuc := hexV_take_succ hlt
      obtain ⟨n, hn⟩ : ∃ n, hexV 0 (l.take k) = n := ⟨_, rfl⟩
      obtain ⟨c, hcc⟩ : ∃ c, l.getD k 0 = c := ⟨_, rfl⟩
      rw [hn] at hnl hsuc ⊢
      rw [hcc] at hc hhex hsuc
      have hn16 : n < 16777216 := by omega
      rw [isHex_iff] at hhex
      obtain ⟨z, hz⟩ : ∃ z : Int, (n : Int) = z := ⟨_, rfl⟩
      have bz : 0 ≤ z ∧ z < 16777216 := by omega
      have gz : decide ((1152921504606846976 : Int) ≤ z) = false := decide_eq_false (by omega)
      rw [hz]
      have HS := Lib.hid (show (hexV 0 (l.take (k + 1)) : Int) = z * 16 + (hx c : Int) by rw [hsuc, ← hz]; omega)
      clear hn hcc hp hnl hsuc hz hn16
      by_cases hd : c.toNat ≤ 57
      · have HV := Lib.hid (show hx c = c.toNat - 48 by unfold hx; rw [if_pos hd])
        have hlo : 48 ≤ c.toNat := by omega
        obtain ⟨x, hxx⟩ : ∃ x : Int, (c.toNat : Int) = x := ⟨_, rfl⟩
        have HX := Lib.hid hxx
        rw [hxx] at hc
        have b1 : 48 ≤ x ∧ x ≤ 57 := by omega
        have g0 : (x == 95) = false := beq_eq_false_iff_ne.2 (by omega)
        have g1 : decide ((48 : Int) ≤ x) = true := decide_eq_true (by omega)
        have g2 : decide (x ≤ (57 : Int)) = true := decide_eq_true (by omega)
        clear hhex hd hlo hxx
        go_wp2
        refine ⟨⟨k + 1, by omega, by go_num, ?_, rfl, trivial⟩, by simp [RowKit.intOf]; omega⟩
        rw [HS.out, HV.out]
        congr 1
        have := HX.out
        omega
      · have HV := Lib.hid (show hx c = c.toNat - 87 by unfold hx; rw [if_neg hd])
        obtain ⟨x, hxx⟩ : ∃ x : Int, (c.toNat : Int) = x := ⟨_, rfl⟩
        have HX := Lib.hid hxx
        rw [hxx] at hc
        have b1 : 97 ≤ x ∧ x ≤ 102 := by omega
        have hlow : bits .or .u8 x 32 = x := by
          obtain rfl | rfl | rfl | rfl | rfl | rfl : x = 97 ∨ x = 98 ∨ x = 99 ∨ x = 100 ∨ x = 101 ∨ x = 102 := by omega
          all_goals decide
        have g0 : (x == 95) = false := beq_eq_false_iff_ne.2 (by omega)
        have g1 : decide ((48 : Int) ≤ x) = true := decide_eq_true (by omega)
        have g2 : decide (x ≤ (57 : Int)) = false := decide_eq_false (by omega)
        have g3 : decide ((97 : Int) ≤ x) = true := decide_eq_true (by omega)
        have g4 : decide (x ≤ (122 : Int)) = true := decide_eq_true (by omega)
        clear hhex hd hxx
        go_wp2_with (go_at_call 214; refine (Tryz.internal_strconv_lower _ _).mono ?_; rintro e w' ⟨rfl, rfl⟩; rw [hlow])
        refine ⟨⟨k + 1, by omega, by go_num, ?_, rfl, trivial⟩, by simp [RowKit.intOf]; omega⟩
        rw [HS.out, HV.out]
        congr 1
        have := HX.out
        omega
    · obtain rfl : k = l.length := by omega
      rw [List.take_length] at hnl ⊢
      obtain ⟨z, hz⟩ : ∃ z : Int, (hexV 0 l : Int) = z := ⟨_, rfl⟩
      rw [hz]
      have HZ := Lib.hid hz
      clear hnl hp hx' HC hz
      go_wp2
      go_ret2
      exact ⟨(show _ = Ending.returned (Value.tuple #[.int .u64 z, .nilIface]) from rfl).trans (by rw [HZ.out]), HB.out⟩
set_option maxHeartbeats 4000000 in
set_option maxRecDepth 100000 in
theorem parseI16 (l : List UInt8) (h1 : l ≠ []) (h6 : l.length ≤ 6) (hx' : l.all isHex = true) (w : World) :
    Calls Tryz.prog 197 #[.string ⟨l.toArray⟩, .int .i64 16, .int .i64 64] w fun e w' => e = .returned (.tuple #[.int .i64 (hexV 0 l : Int), .nilIface]) ∧ Below w.heap.size w w' := by
  have hU := fun w => parseU16 l h1 h6 hx' w
  have hb := hexV_take_lt hx' l.length (Nat.le_refl _)
  have hp := hex_le6 h6
  rw [List.take_length] at hb
  obtain ⟨z, hz⟩ : ∃ z : Int, (hexV 0 l : Int) = z := ⟨_, rfl⟩
  have bz : 0 ≤ z ∧ z < 16777216 := by omega
  simp only [hz] at hU ⊢
  obtain ⟨c, r, rfl⟩ := List.exists_cons_of_ne_nil h1
  have hc : isHex c = true := by
    rw [List.all_cons, Bool.and_eq_true] at hx'
    exact hx'.1
  rw [isHex_iff] at hc
  have e1 := ba_nil (c :: r)
  rw [decide_eq_false h1] at e1
  have e2 := ba_size (c :: r)
  clear hb hp hz hx' h1 h6
  go_enter Tryz.func197, Tryz.ntmps197
  go_upto_region 5 with (fail)
  have eb : ∀ h, ((⟨(c :: r).toArray⟩ : ByteArray)[0]'h) = c := fun h => rfl
  simp only [eb]
  obtain ⟨x, hxx⟩ : ∃ x : Int, (c.toNat : Int) = x := ⟨_, rfl⟩
  rw [hxx]
  have g0 : (x == 43) = false := beq_eq_false_iff_ne.2 (by omega)
  have g1 : (x == 45) = false := beq_eq_false_iff_ne.2 (by omega)
  have g2 : decide ((9223372036854775808 : Int) ≤ z) = false := decide_eq_false (by omega)
  clear eb hxx hc e1 e2
  generalize (⟨(c :: r).toArray⟩ : ByteArray) = s at hU ⊢
  go_wp2_with (go_at_call 207; refine (hU _).mono ?_; rintro e w' ⟨rfl, hB⟩)
  go_ret2
  exact ⟨rfl, hB⟩
set_option maxHeartbeats 1000000 in
theorem parse16 (l : List UInt8) (h1 : l ≠ []) (h6 : l.length ≤ 6) (hx' : l.all isHex = true) (w : World) :
    Calls Tryz.prog 184 #[.string ⟨l.toArray⟩, .int .i64 16, .int .i64 64] w fun e w' => e = .returned (.tuple #[.int .i64 (hexV 0 l : Int), .nilIface]) ∧ Below w.heap.size w w' := by
  have hU := fun w => parseI16 l h1 h6 hx' w
  generalize (⟨l.toArray⟩ : ByteArray) = s at hU ⊢
  generalize (hexV 0 l : Int) = z at hU ⊢
  go_enter Tryz.func184, Tryz.ntmps184
  go_wp2_with (go_at_call 197; refine (hU _).mono ?_; rintro e w' ⟨rfl, hB⟩)
  go_ret2
  exact ⟨rfl, hB⟩
end Go.Proofs.Val
set_option linter.unusedVariables false
set_option linter.unusedSimpArgs false
namespace Go.Proofs.Val
open Go.RowKit Go.Proofs Go.Proofs.YtolfpgccebdlpaaGreatDoorW.PrintWords
theorem tz16 (w : World) (hT : Tbs w) : Calls Tryz.prog 203 #[.int .u64 16] w fun e w' => e = .returned (.int .i64 4) ∧ w' = w := by
  have hc := hT.tz
  have h64 : ∀ w, w.cell? ⟨7, 15, none⟩ = some (.int .u8 4) → Calls Tryz.prog 213 #[.int .u64 16] w fun e w' => e = .returned (.int .i64 4) ∧ w' = w := by
    intro w hc
    have hv : IntKind.u64.wrap (bits BinOp.and IntKind.u64 16 (IntKind.u64.wrap (-16)) * 285870213051353865) / 288230376151711744 = 15 := by decide
    go_enter Tryz.func213, Tryz.ntmps213
    go_wp2
    go_ret
    exact ⟨rfl, rfl⟩
  have h := h64 w hc
  go_enter Tryz.func203, Tryz.ntmps203
  go_wp2_with (go_at_call 213; refine (h).mono ?_; rintro e w' ⟨rfl, rfl⟩)
  go_ret
  exact ⟨rfl, rfl⟩
theorem pow16 (w : World) : Calls Tryz.prog 202 #[.int .i64 16] w fun e w' => e = .returned (.bool true) ∧ w' = w := by
  have hb0 : bits BinOp.and IntKind.i64 16 15 = 0 := by decide
  go_enter Tryz.func202, Tryz.ntmps202
  go_wp2
  go_ret
  exact ⟨rfl, rfl⟩
def hexD (v : Nat) : UInt8 := UInt8.ofNat (if v < 10 then 48 + v else 87 + v)
theorem and15 (x : Int) (h0 : 0 ≤ x) (h1 : x < 18446744073709551616) : bits .and .u64 x 15 = x % 16 := bits_mask .u64 64 (by decide) wraps_u64 4 (by decide) x h0 h1
/-- the cells when k digits are laid -/
def hv (U k j : Nat) : Int := if 65 - k ≤ j then ((hexD (U / 16 ^ (64 - j) % 16)).toNat : Int) else 0
def HxAt (U B : Nat) (w wr : World) (k : Nat) : Prop := (∀ j, j < 65 → wr.cell? ⟨B, j, none⟩ = some (.int .u8 (hv U k j)) ∧ wr.frozen? ⟨B, j, none⟩ = false) ∧ Below w.heap.size w wr
theorem HxAt.put {U B k : Nat} {w wr : World} (h : HxAt U B w wr k) (hB : w.heap.size ≤ B) (hk : k < 65) {v : Int} (hv' : v = ((hexD (U / 16 ^ k % 16)).toNat : Int)) : HxAt U B w (wr.setCell ⟨B, 64 - k, none⟩ (.int .u8 v)) (k + 1) := by
  refine ⟨fun j hj => ⟨?_, by rw [World.frozen?_setCell]; exact (h.1 j hj).2⟩, h.2.setCell (p := ⟨B, 64 - k, none⟩) hB _⟩
  by_cases e : j = 64 - k
  · subst e
    have e2 : hv U (k + 1) (64 - k) = v := by unfold hv; rw [if_pos (by omega), hv', show 64 - (64 - k) = k by omega]
    rw [e2]
    exact World.cell?_setCell_same' _ _ _ (by rw [(h.1 (64 - k) hj).1]; rfl)
  · have e2 : hv U (k + 1) j = hv U k j := by
      unfold hv
      by_cases h1 : 65 - k ≤ j
      · rw [if_pos h1, if_pos (by omega)]
      · rw [if_neg h1, if_neg (by omega)]
    rw [e2, ← (h.1 j hj).1]
    exact World.cell?_setCell_other _ _ _ _ (by intro q; injection q with _ q; exact e q.symm)
theorem dig36_fin : ∀ i : Fin 16, ((⟨#[48, 49, 50, 51, 52, 53, 54, 55, 56, 57, 97, 98, 99, 100, 101, 102, 103, 104, 105, 106, 107, 108, 109, 110, 111, 112, 113, 114, 115, 116, 117, 118, 119, 120, 121, 122]⟩ : ByteArray)[i.val]'(Nat.lt_of_lt_of_le i.2 (by decide))) = hexD i.val := by decide +kernel
theorem dig36 (v : Nat) (h : v < 16) (hh) : ((⟨#[48, 49, 50, 51, 52, 53, 54, 55, 56, 57, 97, 98, 99, 100, 101, 102, 103, 104, 105, 106, 107, 108, 109, 110, 111, 112, 113, 114, 115, 116, 117, 118, 119, 120, 121, 122]⟩ : ByteArray)[v]'hh) = hexD v := dig36_fin ⟨v, h⟩
theorem zero65 : Tryz.zeroCells231 = Array.replicate 65 (.int .u8 0) := by kernel_rfl
theorem HxAt.start (U : Nat) (w : World) : HxAt U w.heap.size w (w.alloc (.cells Tryz.zeroCells231 231)) 0 := by
  refine ⟨fun j hj => ⟨?_, ?_⟩, (Below.refl _ _).alloc (Nat.le_refl _) _⟩
  · rw [cell_of_row _ _ _ _ _ _ (heap_alloc_new _ _), zero65]
    have e : hv U 0 j = 0 := by unfold hv; rw [if_neg (by omega)]
    rw [e]
    simp [hj]
  · exact World.frozen?_alloc_at _ _ _ _ rfl
def hexL (n : Nat) : List UInt8 := [hexD (n / 16 ^ 5 % 16), hexD (n / 16 ^ 4 % 16), hexD (n / 16 ^ 3 % 16), hexD (n / 16 ^ 2 % 16), hexD (n / 16 % 16), hexD (n % 16)]
set_option maxHeartbeats 4000000 in
set_option maxRecDepth 1000000 in
theorem bits16 (n : Nat) (hn : n < 16777216) (w : World) (hT : Tbs w) :
    Calls Tryz.prog 188 #[.slice none 0 0, .int .u64 ((16777216 + n : Nat) : Int), .int .i64 16, .bool false, .bool false] w fun e w' => e = .returned (.tuple #[.slice none 0 0, .string ⟨(49 :: hexL n).toArray⟩]) ∧ Below w.heap.size w w' := by
  obtain ⟨U, hU⟩ : ∃ U, 16777216 + n = U := ⟨_, rfl⟩
  rw [hU]
  have HU := Lib.hid hU
  have hb1 : 16777216 ≤ U := by omega
  have hb2 : U < 33554432 := by omega
  have H0 := Lib.hid (HxAt.start U w)
  clear hU
  have hX := fun k v hv' => dig36 k v hv'
  go_enter Tryz.func188, Tryz.ntmps188
  go_wp2_with (first | (go_at_call 202; refine (pow16 _).mono ?_; rintro e w' ⟨rfl, rfl⟩) | (go_at_call 203; refine (tz16 _ (hT.below (by first | exact (Below.refl _ _).alloc (Nat.le_refl _) _ | exact Below.refl _ _))).mono ?_; rintro e w' ⟨rfl, rfl⟩))
  go_loopw [1, 13] (fun u i wr => ∃ k : Nat, k ≤ 6 ∧ i = .int .i64 ((65 - k : Nat) : Int) ∧ u = .int .u64 ((U / 16 ^ k : Nat) : Int) ∧ Hid (HxAt U w.heap.size w wr k)) (fun _ i _ => (RowKit.intOf i).toNat)
  case atStart => exact ⟨0, by omega, rfl, by simp, Lib.hid H0.out⟩
  case round =>
    obtain ⟨k, hk, rfl, rfl, H1⟩ := hrel
    clear H0 hT
    by_cases hlt : k < 6
    · have hp : 16 ≤ U / 16 ^ k := by
        have hq : 16 * 16 ^ k ≤ 16 ^ 6 := by rw [Nat.mul_comm, ← Nat.pow_succ]; exact Nat.pow_le_pow_right (by omega) (by omega)
        have h6 : (16 : Nat) ^ 6 = 16777216 := by decide
        exact (Nat.le_div_iff_mul_le (Nat.pow_pos (by omega))).2 (by omega)
      have hle : U / 16 ^ k < 33554432 := Nat.lt_of_le_of_lt (Nat.div_le_self _ _) hb2
      have HN := Lib.hid (show U / 16 ^ (k + 1) = U / 16 ^ k / 16 by rw [Nat.pow_succ, Nat.div_div_eq_div_mul])
      obtain ⟨c1, c2⟩ := H1.out.1 (64 - k) (by omega)
      obtain ⟨x, hx⟩ : ∃ x, U / 16 ^ k = x := ⟨_, rfl⟩
      have HX := Lib.hid hx
      rw [hx] at hp hle
      rw [hx]
      obtain ⟨i, hi⟩ : ∃ i, 64 - k = i := ⟨_, rfl⟩
      have HI := Lib.hid hi
      rw [hi] at c1 c2
      have e1 : 65 - k = i + 1 := by omega
      have hi65 : i < 65 := by omega
      rw [e1]
      clear e1 hi hx
      have ha := and15 (x : Int) (by omega) (by omega)
      have hd := fun h => hX (x % 16) (by omega) h
      clear hX
      go_wp2
      refine ⟨⟨k + 1, by omega, ?_, ?_, Lib.hid ?_⟩, by simp [RowKit.intOf]⟩
      · congr 1; have := HI.out; omega
      · rw [HN.out, HX.out]; congr 1
      · have hh := H1.out.put (Nat.le_refl _) (by omega) (v := ((hexD (x % 16)).toNat : Int)) (by rw [HX.out])
        rw [HI.out] at hh
        exact hh
    · obtain rfl : k = 6 := by omega
      have hq1 : U / 16 ^ 6 = 1 := by have h6 : (16 : Nat) ^ 6 = 16777216 := by decide
                                      rw [h6]; omega
      rw [hq1]
      have hd := fun h => hX 1 (by omega) h
      clear hX
      obtain ⟨c1, c2⟩ := H1.out.1 58 (by omega)
      have H2 := H1.out.put (Nat.le_refl _) (by omega) (v := ((hexD 1).toNat : Int)) (by rw [hq1])
      have hcv := run_convert_bytes_arg (P := Tryz.prog) (wr.setCell ⟨w.heap.size, 58, none⟩ (.int .u8 ((hexD 1).toNat : Int))) 97 5 Tryz.underlying97 Tryz.underlying5 w.heap.size 58 7 7 ((List.range 7).map fun i => hv U 7 (58 + i)) (by simp) (fun i hi => by rw [(H2.1 (58 + i) (by omega)).1]; simp [List.getD, hi]) 9 Tryz.underlying9
      have hB := Lib.hid H2.2
      have hs : strOfNums ((List.range 7).map fun i => hv U 7 (58 + i)) = ⟨(49 :: hexL n).toArray⟩ := by
        have h5 : (16 : Nat) ^ 5 = 1048576 := by decide
        have h4 : (16 : Nat) ^ 4 = 65536 := by decide
        have h3 : (16 : Nat) ^ 3 = 4096 := by decide
        have h2 : (16 : Nat) ^ 2 = 256 := by decide
        have h6 : (16 : Nat) ^ 6 = 16777216 := by decide
        have hU := HU.out
        have q : ∀ i, i < 7 → hv U 7 (58 + i) = ((hexD (U / 16 ^ (6 - i) % 16)).toNat : Int) := fun i hi => by unfold hv; rw [if_pos (by omega), show 64 - (58 + i) = 6 - i by omega]
        have o : ∀ c : UInt8, UInt8.ofNat ((c.toNat : Int)).toNat = c := fun c => by simp
        unfold strOfNums hexL
        congr 1
        have e7 : List.range 7 = [0, 1, 2, 3, 4, 5, 6] := rfl
        rw [e7]
        simp only [List.map_cons, List.map_nil]
        rw [q 0 (by omega), q 1 (by omega), q 2 (by omega), q 3 (by omega), q 4 (by omega), q 5 (by omega), q 6 (by omega)]
        simp only [o, Nat.reduceSub, Nat.pow_zero, Nat.pow_one, Nat.div_one, h2, h3, h4, h5, h6]
        rw [show U / 16777216 % 16 = 1 by omega, show U / 1048576 % 16 = n / 1048576 % 16 by omega, show U / 65536 % 16 = n / 65536 % 16 by omega, show U / 4096 % 16 = n / 4096 % 16 by omega, show U / 256 % 16 = n / 256 % 16 by omega, show U / 16 % 16 = n / 16 % 16 by omega, show U % 16 = n % 16 by omega]
        rfl
      rw [hs] at hcv
      clear H1 H2 hs hq1
      obtain ⟨S, hS⟩ : ∃ S : ByteArray, ⟨(49 :: hexL n).toArray⟩ = S := ⟨_, rfl⟩
      rw [hS] at hcv
      have HS := Lib.hid hS
      clear hS
      go_wp2
      go_ret2
      exact ⟨(show _ = Ending.returned (Value.tuple #[.slice none 0 0, .string S]) from rfl).trans (by rw [HS.out]), hB.out⟩
set_option maxHeartbeats 1000000 in
set_option maxRecDepth 100000 in
theorem fmt16 (n : Nat) (hn : n < 16777216) (w : World) (hT : Tbs w) :
    Calls Tryz.prog 121 #[.int .i64 ((16777216 + n : Nat) : Int), .int .i64 16] w fun e w' => e = .returned (.string ⟨(49 :: hexL n).toArray⟩) ∧ Below w.heap.size w w' := by
  have hF := fun w hT => bits16 n hn w hT
  have hn2 : ((16777216 + n : Nat) : Int) ≤ 33554432 := by omega
  have hn3 : 16777216 ≤ ((16777216 + n : Nat) : Int) := by omega
  generalize ((16777216 + n : Nat) : Int) = z at hF hn2 hn3 ⊢
  generalize (⟨(49 :: hexL n).toArray⟩ : ByteArray) = S at hF ⊢
  have hI : ∀ w, Tbs w → Calls Tryz.prog 149 #[.int .i64 z, .int .i64 16] w fun e w' => e = .returned (.string S) ∧ Below w.heap.size w w' := by
    intro w hT
    have hx := hF w hT
    have d0 : decide (z < 0) = false := decide_eq_false (by omega)
    have d1 : IntKind.u64.wrap z = z := wraps_u64 _ (by omega) (by omega)
    clear hF
    go_enter Tryz.func149, Tryz.ntmps149
    go_wp2_with (go_at_call 188; with_reducible refine (hx).mono ?_; rintro e w' ⟨rfl, hB⟩)
    go_ret
    exact ⟨rfl, hB⟩
  have hy := hI w hT
  clear hI hF
  go_enter Tryz.func121, Tryz.ntmps121
  go_wp2_with (go_at_call 149; refine (hy).mono ?_; rintro e w' ⟨rfl, hB⟩)
  go_ret
  exact ⟨rfl, hB⟩
end Go.Proofs.Val
set_option linter.unusedVariables false
set_option linter.unusedSimpArgs false
namespace Go.Proofs.Val
open Go.RowKit Go.Maps Go.Proofs Go.Proofs.YtolfpgccebdlpaaGreatDoorW.PrintWords
theorem trim_nil (cs : List UInt8) (p : UInt8 → Bool) (hp : ∀ c, cs.contains c = p c) (l : List UInt8) : Lib.trimS l cs = [] ↔ l.all p = true := by
  have e : ∀ l : List UInt8, l.dropWhile (cs.contains ·) = l.dropWhile p := fun l => by
    congr 1; funext c; exact hp c
  unfold Lib.trimS Lib.trimLeftS Lib.trimRightS
  rw [e, e, dropWhile_nil, List.all_reverse]
  constructor
  · intro h
    have := dropWhile_sub _ h
    rwa [List.all_reverse] at this
  · intro h
    have : l.reverse.dropWhile p = [] := dropWhile_nil.2 (by rw [List.all_reverse]; exact h)
    rw [this]; rfl
def hexW : List UInt8 := [48, 49, 50, 51, 52, 53, 54, 55, 56, 57, 97, 98, 99, 100, 101, 102]
theorem hex_contains (c : UInt8) : hexW.contains c = isHex c := u8_all (P := fun c => hexW.contains c = isHex c) (by decide +kernel) c
theorem trim_hex (l : List UInt8) (w : World) (hs : l.length < 4294967281) :
    Calls Tryz.prog 132 #[.string ⟨l.toArray⟩, .string ⟨#[48, 49, 50, 51, 52, 53, 54, 55, 56, 57, 97, 98, 99, 100, 101, 102]⟩] w fun e w' => e = .returned (.string ⟨(Lib.trimS l hexW).toArray⟩) ∧ Below w.heap.size w w' :=
  Any.strings_Trim_laid Tryz.lays160 (by kernel_rfl) ⟨l.toArray⟩ ⟨#[48, 49, 50, 51, 52, 53, 54, 55, 56, 57, 97, 98, 99, 100, 101, 102]⟩ w (by show l.length ≤ _; omega) (by decide) (ascii_all (by decide))
theorem lawS : Keyed Tryz.prog 9 := string_keyed Tryz.underlying9
theorem keyOf_str {s : ByteArray} (hs : s.size ≤ maxLen) : keyOf Tryz.prog 9 (.string s) = some (.string s.data.toList) := by
  simp [keyOf, Tryz.underlying9, mapKey, hs]
theorem wpList_insert_own {P : Program} (w : World) {ops : Array Oper} {rest : List Oper} {o : Oper} {a : Act} {Q : Exit → Act → World → Prop}
    (hg : o.guard = none) (m x v : Operand) (t : TypeId) (hop : o.op = Op.insert t m x v)
    (k e : TypeId) (K : Keyed P k) (ht : P.underlying t = some (.map k e)) (R : Value → Option (DataW Unit × List MemPlace)) (b n : Nat) (D : DataW Unit)
    (hm : a.eval m = .map (some b)) (hown : w.ownsMap P k R b n D) (hn : n < maxLen) (key val : Value) (kl : Lit) (hx : a.eval x = key) (hv : a.eval v = val) (hkey : keyOf P k key = some kl)
    (d : DataW Unit) (ps : List MemPlace) (hval : R val = some (d, ps))
    (hK : ∀ w', w'.ownsMap P k R b (n + 1) (D.put kl d) → w.grownBy w' (some b) → wpList P ops Q rest (a.put o.dst undef) w') :
    wpList P ops Q (o :: rest) a w := by
  refine wpList_plain hg fun K' hK' => ?_
  obtain ⟨w', hrun, r1, r2⟩ := hown.update K ht hn hkey hval
  unfold Oper.wp
  simp [execOp, hop, hm, hx, hv, hrun, Result.andThen]
  exact hK' _ _ (hK w' r1 r2)
theorem made_own (w : World) : (w.alloc (.map #[] 0)).ownsMap Tryz.prog 9 (plainElem (H := Unit) Tryz.prog 2) w.heap.size 0 (.map []) := World.ownsMap_made _ _ _ _
def kBlack : List UInt8 := [98, 108, 97, 99, 107]
def kWhite : List UInt8 := [119, 104, 105, 116, 101]
def kRed : List UInt8 := [114, 101, 100]
def kGreen : List UInt8 := [103, 114, 101, 101, 110]
def kBlue : List UInt8 := [98, 108, 117, 101]
abbrev i64L (n : Int) : DataW Unit := .lit (.int .i64 n)
theorem i64L_inj {a b : Int} (h : i64L a = i64L b) : a = b := by simpa [i64L] using h
def colD : DataW Unit := (((((DataW.map []).put (.string kBlack) (i64L 0)).put (.string kWhite) (i64L 16777215)).put (.string kRed) (i64L 16711680)).put (.string kGreen) (i64L 32768)).put (.string kBlue) (i64L 255)
def namC (l : List UInt8) : Option Int := if l = kBlue then some 255 else if l = kGreen then some 32768 else if l = kRed then some 16711680 else if l = kWhite then some 16777215 else if l = kBlack then some 0 else none
def hexOk (l : List UInt8) : Bool := Lib.hasPrefix l [35] && (decide ((Lib.trimPrefix l [35]).length = 6) && (Lib.trimPrefix l [35]).all isHex)
def colOk (l : List UInt8) : Bool := (namC l).isSome || hexOk l
def colN (l : List UInt8) : Int := match namC l with | some n => n | none => if hexOk l = true then (hexV 0 (Lib.trimPrefix l [35]) : Int) else 0
theorem ismap_put {D : DataW Unit} (h : IsMap D) (k : Lit) (d : DataW Unit) : IsMap (D.put k d) := by
  obtain ⟨es, rfl⟩ := h
  exact ⟨_, rfl⟩
theorem col_at (l : List UInt8) : colD.atKey (.string l) (i64L 0) = i64L ((namC l).getD 0) ∧ Maps.has colD (.string l) = (namC l).isSome := by
  have m0 : IsMap (DataW.map ([] : List (Lit × DataW Unit))) := ⟨_, rfl⟩
  have m1 := ismap_put m0 (.string kBlack) (i64L 0)
  have m2 := ismap_put m1 (.string kWhite) (i64L 16777215)
  have m3 := ismap_put m2 (.string kRed) (i64L 16711680)
  have m4 := ismap_put m3 (.string kGreen) (i64L 32768)
  have kl : ∀ l, WideAt.IsKeyLit (.string l) := fun l => trivial
  have ne : ∀ {a b : List UInt8}, a ≠ b → (Lit.string a) ≠ (Lit.string b) := fun h e => h (by injection e)
  unfold colD namC
  by_cases h5 : l = kBlue
  · rw [if_pos h5, h5, atKey_put_same m4 (kl _), has_put_same m4 (kl _)]; exact ⟨rfl, rfl⟩
  · rw [if_neg h5, atKey_put_other (ne h5), has_put_other (ne h5)]
    by_cases h4 : l = kGreen
    · rw [if_pos h4, h4, atKey_put_same m3 (kl _), has_put_same m3 (kl _)]; exact ⟨rfl, rfl⟩
    · rw [if_neg h4, atKey_put_other (ne h4), has_put_other (ne h4)]
      by_cases h3 : l = kRed
      · rw [if_pos h3, h3, atKey_put_same m2 (kl _), has_put_same m2 (kl _)]; exact ⟨rfl, rfl⟩
      · rw [if_neg h3, atKey_put_other (ne h3), has_put_other (ne h3)]
        by_cases h2 : l = kWhite
        · rw [if_pos h2, h2, atKey_put_same m1 (kl _), has_put_same m1 (kl _)]; exact ⟨rfl, rfl⟩
        · rw [if_neg h2, atKey_put_other (ne h2), has_put_other (ne h2)]
          by_cases h1 : l = kBlack
          · rw [if_pos h1, h1, atKey_put_same m0 (kl _), has_put_same m0 (kl _)]; exact ⟨rfl, rfl⟩
          · rw [if_neg h1, atKey_put_other (ne h1), has_put_other (ne h1)]; exact ⟨rfl, rfl⟩
set_option maxHeartbeats 4000000 in
set_option maxRecDepth 100000 in
theorem colorC (l : List UInt8) (w : World) (hs : l.length < 4294967281) :
    Calls Tryz.prog 176 #[.string ⟨l.toArray⟩] w fun e w' => e = .returned (.tuple #[.int .i64 (colN l), .bool (colOk l)]) ∧ Below w.heap.size w w' := by
  have hmm := @run_makeMap Tryz.prog
  have hown := made_own w
  have hb0 : Below w.heap.size w (w.alloc (.map #[] 0)) := (Below.refl _ _).alloc (Nat.le_refl _) _
  obtain ⟨s, hS⟩ : ∃ s : ByteArray, ⟨l.toArray⟩ = s := ⟨_, rfl⟩
  have hl : s.data.toList = l := by rw [← hS]
  have hP := fun w => Tryz.strings_CutPrefix s ⟨#[35]⟩ w
  have hT := fun w => trim_hex (Lib.trimPrefix l [35]) w (by have := trimPrefix_len l [35]; omega)
  rw [hl, show (⟨#[35]⟩ : ByteArray).data.toList = [35] from rfl] at hP
  have hkey := keyOf_str (s := s) (by rw [← hS]; show l.length ≤ maxLen; unfold maxLen; omega)
  rw [hl] at hkey
  rw [hS]
  clear hS hl
  go_enter Tryz.func176, Tryz.ntmps176
  go_upto_region 2 with (refine wpList_insert_own _ rfl _ _ _ 224 rfl 9 2 lawS Tryz.underlying224 (plainElem (H := Unit) Tryz.prog 2) w.heap.size _ _ rfl (by assumption) (by decide) _ _ _ rfl rfl (keyOf_str (by decide)) _ [] (plainElem_int Tryz.underlying2 (by decide)) ?_; intro w1 hown hgrow; replace hb0 := hb0.grown hgrow hb0.size (fun j e => by cases e; exact Nat.le_refl _); clear hgrow)
  have hown : w1.ownsMap Tryz.prog 9 (plainElem (H := Unit) Tryz.prog 2) w.heap.size 5 colD := hown
  obtain ⟨q1, q2⟩ := col_at l
  have HO := Lib.hid hown
  have HB := Lib.hid hb0
  clear hb0 hmm
  clear hown
  go_upto_region 3 with (refine wpList_lookup_own_ok_int _ rfl _ _ 224 rfl 9 2 .i64 lawS Tryz.underlying224 Tryz.underlying2 (by kernel_rfl) w.heap.size 5 colD rfl HO.out _ _ rfl hkey ?_; intro c hat hwc; rw [q1] at hat; rw [q2]; rw [← i64L_inj hat]; clear hat hwc)
  obtain ⟨o, ho⟩ : ∃ o, namC l = o := ⟨_, rfl⟩
  rw [ho]
  clear q1 q2 HO hkey
  cases o with
  | some n =>
    have HK := Lib.hid (show colN l = n ∧ colOk l = true from ⟨by unfold colN; rw [ho], by unfold colOk; rw [ho]; rfl⟩)
    clear ho hP hT hs
    go_wp2
    go_ret2
    exact ⟨(show _ = Ending.returned (Value.tuple #[.int .i64 n, .bool true]) from rfl).trans (by rw [HK.out.1, HK.out.2]), HB.out⟩
  | none =>
    have HA := Lib.hid (show colOk l = (Lib.hasPrefix l [35] && (decide ((Lib.trimPrefix l [35]).length = 6) && (Lib.trimPrefix l [35]).all isHex)) by unfold colOk hexOk; rw [ho]; rfl)
    have HN := Lib.hid (show colN l = if colOk l = true then (hexV 0 (Lib.trimPrefix l [35]) : Int) else 0 by unfold colN colOk; rw [ho]; rfl)
    have hlen := trimPrefix_len l [35]
    obtain ⟨rest, hr⟩ : ∃ r, Lib.trimPrefix l [35] = r := ⟨_, rfl⟩
    obtain ⟨bl, hb⟩ : ∃ r, Lib.hasPrefix l [35] = r := ⟨_, rfl⟩
    have htn := trim_nil hexW isHex hex_contains rest
    rw [hr, hb] at HA
    rw [hr] at HN
    simp only [hr, hb] at hP hT hlen
    clear ho hr hb
    cases bl with
    | false =>
      have HK := Lib.hid (show colOk l = false ∧ colN l = 0 from ⟨by rw [HA.out]; rfl, by rw [HN.out, show colOk l = false by rw [HA.out]; rfl]; rfl⟩)
      clear HA HN hT htn hs hlen
      go_wp2_with (go_at_call 182; refine (hP _).mono ?_; rintro e w' ⟨rfl, rfl⟩)
      go_ret2
      exact ⟨(show _ = Ending.returned (Value.tuple #[.int .i64 0, .bool false]) from rfl).trans (by rw [HK.out.1, HK.out.2]), HB.out⟩
    | true =>
      have BAD : ∀ (_ : colOk l = false), Hid (colOk l = false ∧ colN l = 0) := fun h => Lib.hid ⟨h, by rw [HN.out, h]; rfl⟩
      have e4 := ba_nil (Lib.trimS rest hexW)
      by_cases h6 : rest.length = 6
      · have d6 : ((rest.length : Int) != 6) = false := by rw [h6]; rfl
        by_cases hh : rest.all isHex = true
        · rw [decide_eq_true (htn.2 hh)] at e4
          have hI := fun w => parse16 rest (fun e => by rw [e] at h6; cases h6) (by omega) hh w
          have HK := Lib.hid (show colOk l = true ∧ colN l = (hexV 0 rest : Int) from by
            have e : colOk l = true := by rw [HA.out, decide_eq_true h6, hh]; rfl
            exact ⟨e, by rw [HN.out, e]; rfl⟩)
          clear HA HN htn hs hlen hh h6 BAD
          generalize (Lib.trimS rest hexW) = tr at hT e4
          generalize (⟨tr.toArray⟩ : ByteArray) = tb at hT e4
          generalize (hexV 0 rest : Int) = z at hI HK
          go_wp2_with (first | (go_at_call 182; refine (hP _).mono ?_; rintro e w' ⟨rfl, rfl⟩) | (go_at_call 132; refine (hT _).mono ?_; rintro e w2 ⟨rfl, hB2⟩) | (go_at_call 184; refine (hI _).mono ?_; rintro e w3 ⟨rfl, hB3⟩))
          go_quiet (fail)
          go_wp2
          go_ret2
          have q2 := below_then HB.out HB.out.size hB2
          have q3 := below_then q2 q2.size hB3
          exact ⟨(show _ = Ending.returned (Value.tuple #[.int .i64 z, .bool true]) from rfl).trans (by rw [HK.out.1, HK.out.2]), pw_below_drewN q3 nq⟩
        · rw [decide_eq_false (fun e => hh (htn.1 e))] at e4
          have HK := BAD (by rw [HA.out, Bool.eq_false_iff.2 hh]; simp)
          clear HA HN htn hs hlen hh h6 BAD
          generalize (Lib.trimS rest hexW) = tr at hT e4
          generalize (⟨tr.toArray⟩ : ByteArray) = tb at hT e4
          go_wp2_with (first | (go_at_call 182; refine (hP _).mono ?_; rintro e w' ⟨rfl, rfl⟩) | (go_at_call 132; refine (hT _).mono ?_; rintro e w2 ⟨rfl, hB2⟩))
          go_ret2
          exact ⟨(show _ = Ending.returned (Value.tuple #[.int .i64 0, .bool false]) from rfl).trans (by rw [HK.out.1, HK.out.2]), below_then HB.out HB.out.size hB2⟩
      · have d6 : ((rest.length : Int) != 6) = true := bne_iff_ne.2 (by omega)
        have HK := BAD (by rw [HA.out, decide_eq_false h6]; rfl)
        clear HA HN htn hs hlen h6 BAD hT e4
        go_wp2_with (go_at_call 182; refine (hP _).mono ?_; rintro e w' ⟨rfl, rfl⟩)
        go_ret2
        exact ⟨(show _ = Ending.returned (Value.tuple #[.int .i64 0, .bool false]) from rfl).trans (by rw [HK.out.1, HK.out.2]), HB.out⟩
end Go.Proofs.Val
set_option linter.unusedVariables false
set_option linter.unusedSimpArgs false
namespace Go.Proofs.Scn
open Go.RowKit Go.Lib Go.Proofs.YtolfpgccebdlpaaGreatDoorW.PrintWords
end Go.Proofs.Scn
namespace Go.Proofs.Val
open Go.RowKit Go.Proofs Go.Proofs.YtolfpgccebdlpaaGreatDoorW.PrintWords
theorem mayV_zero (k n : Int) : mayV 0 k n = false := by
  have e1 : (rec0 0).auto = false := rfl
  have e2 : (rec0 0).length = false := rfl
  have e3 : (rec0 0).part = false := rfl
  have e4 : (rec0 0).color = false := rfl
  have e5 : (rec0 0).number = false := rfl
  have e6 : (rec0 0).wn = 0 := rfl
  unfold mayV
  rw [e1, e2, e3, e4, e5, e6]
  split
  · rfl
  split
  · rfl
  split
  · rfl
  split
  · rfl
  split
  · by_cases h : 0 ≤ n
    · rw [decide_eq_true h, decide_eq_false (by omega)]; rfl
    · rw [decide_eq_false h]; rfl
  split <;> rfl
theorem recA0 (wa : Option Addr) : recV (recA 0 wa) = .agg #[.string ⟨#[]⟩, .bool false, .bool false, .bool false, .bool false, .bool false, .bool false, .slice wa 0 0, .int .i64 0, .int .i64 0] := rfl
set_option maxHeartbeats 2000000 in
theorem mayOut (p : Int) (hp : ¬ (1 ≤ p ∧ p ≤ 26)) (k n : Int) (w : World) :
    Calls Tryz.prog 74 #[.int .i64 p, .agg #[.int .i64 k, .int .i64 n]] w fun e w' => e = .returned (.bool false) ∧ Below w.heap.size w w' := by
  have hO := fun w => ofP p w
  simp only [cl_out hp, decide_eq_false hp, recA0] at hO
  clear hp
  go_enter Tryz.func74, Tryz.ntmps74
  go_upto_region 3 with (first | (go_at_call 116; refine (hO _).mono ?_; rintro e w1 ⟨wa, rfl, hS, hB⟩; clear hS; obtain ⟨hc, hf⟩ := bcell hB; have hz : w.heap.size < w1.heap.size := by (have hs := hB.size; rw [alloc_size] at hs; omega)))
  have p1 : Below w.heap.size w w1 := ((Below.refl _ _).alloc (Nat.le_refl _) _).trans (hB.mono (by rw [alloc_size]; omega))
  have P1 := Lib.hid (below_alloc p1 (.cells #[.string ⟨#[]⟩, .bool false, .bool false, .bool false, .bool false, .bool false, .bool false, .slice wa 0 0, .int .i64 0, .int .i64 0] 163))
  clear hB p1 hO
  go_upto_region 5 with fail
  by_cases k1 : k = 1
  · subst k1
    go_wp2
    go_ret
    exact ⟨rfl, P1.out⟩
  have f1 : (k == 1) = false := by simp [k1]
  by_cases k2 : k = 2
  · subst k2
    go_wp2; go_quiet (fail); go_wp2
    go_ret
    exact ⟨rfl, pw_below_drewN P1.out _⟩
  have f2 : (k == 2) = false := by simp [k2]
  by_cases k3 : k = 3
  · subst k3
    go_wp2; go_quiet (fail); go_wp2
    go_ret
    exact ⟨rfl, pw_below_drewN P1.out _⟩
  have f3 : (k == 3) = false := by simp [k3]
  by_cases k4 : k = 4
  · subst k4
    go_wp2
    go_ret
    exact ⟨rfl, P1.out⟩
  have f4 : (k == 4) = false := by simp [k4]
  by_cases k5 : k = 5
  · subst k5
    by_cases ha : (0 : Int) ≤ n
    · have ga : decide ((0 : Int) ≤ n) = true := decide_eq_true ha
      have gb : decide (n < (0 : Int)) = false := decide_eq_false (by omega)
      go_wp2
      go_ret
      exact ⟨rfl, P1.out⟩
    · have ga : decide ((0 : Int) ≤ n) = false := decide_eq_false ha
      go_wp2
      go_ret
      exact ⟨rfl, P1.out⟩
  have f5 : (k == 5) = false := by simp [k5]
  by_cases k6 : k = 6
  · subst k6
    go_wp2; go_quiet (fail); go_wp2
    go_ret
    exact ⟨rfl, pw_below_drewN P1.out _⟩
  have f6 : (k == 6) = false := by simp [k6]
  go_wp2
  go_ret
  exact ⟨rfl, P1.out⟩
theorem mayP (p k n : Int) (w : World) :
    Calls Tryz.prog 74 #[.int .i64 p, .agg #[.int .i64 k, .int .i64 n]] w fun e w' => e = .returned (.bool (mayV (cl p) k n)) ∧ Below w.heap.size w w' := by
  by_cases hp : 1 ≤ p ∧ p ≤ 26
  · obtain ⟨q, rfl⟩ : ∃ q : Nat, p = (q : Int) := ⟨p.toNat, by omega⟩
    rw [cl_in hp.1 hp.2, Int.toNat_natCast]
    exact mayC q (by omega) (by omega) k n w
  · rw [cl_out hp, mayV_zero]
    exact mayOut p hp k n w
end Go.Proofs.Val
